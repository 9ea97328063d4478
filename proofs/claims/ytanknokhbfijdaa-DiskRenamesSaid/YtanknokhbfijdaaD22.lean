/- What functions of the disk, and of the laws over it, do. Conditions: those that each theorem names. -/
import Derived.Test.YtanknokhbfijdaaD21
set_option linter.unusedVariables false
namespace Go.Proofs.Ytanknokhbfijdaa
open Go.Ab
set_option maxRecDepth 100000
set_option maxHeartbeats 1000000
attribute [local irreducible] Run CallOK DetCall Br PreP BothP AncOr Onw NeedRows NeedMap NeedRow NeedLen NilP NeedIter RoundP EntryP EqP OptP NewP NewSlice NewMade AppTo DrawG anc drawB
theorem s6 (a b : List UInt8) (sy : Bool) (c : UInt8) : Ab.Spec Try.prog 6 [.p (.lst (a.map byteRow)), .p (.lst (b.map byteRow)), .p (.bool sy), .p (.int .u8 c.toNat)] [] (fun r _ => r = boolD true) := by
  have hla : ((a.map byteRow).length : Int) = a.length := by simp
  have hlb : ((b.map byteRow).length : Int) = b.length := by simp
  refine Ab.Spec.walk hm Try.func6 (by kernel_rfl) 300 ?_
  repeat' (first
      | ((with_reducible apply Onw.mk); conv => whnf)
      | with_reducible apply Br.tt
      | with_reducible apply Br.ff
      | with_reducible apply Br.no
      | ((with_reducible apply Br.t); · (assumption))
      | ((with_reducible apply Br.f); · (assumption))
      | ((with_reducible apply Br.dt); · (first | assumption | omega))
      | ((with_reducible apply Br.df); · (first | assumption | omega))
      | with_reducible refine Br.dec (fun hc => ?_) (fun hc => ?_)
      | with_reducible refine Br.mk (fun hc => ?_) (fun hc => ?_)
      | ((with_reducible apply NeedRows.mk); · ((first | assumption | ((repeat (first | assumption | with_reducible apply nth_setN_same | ((with_reducible refine nth_setN_ne ?_ ?_); (first | assumption | omega | (simp; omega))) | ((with_reducible apply nth_new); (first | assumption | (simp; done) | (simp; omega) | (simp [setN_length]; done) | (simp [setN_length]; omega))) | with_reducible apply nth_app)); done))))
      | ((with_reducible apply NeedMap.mk); · ((first | assumption | ((repeat (first | assumption | with_reducible apply nth_setN_same | ((with_reducible refine nth_setN_ne ?_ ?_); (first | assumption | omega | (simp; omega))) | ((with_reducible apply nth_new); (first | assumption | (simp; done) | (simp; omega) | (simp [setN_length]; done) | (simp [setN_length]; omega))) | with_reducible apply nth_app)); done))))
      | ((with_reducible apply NeedIter.mk); · ((first | assumption | ((repeat (first | assumption | with_reducible apply nth_setN_same | ((with_reducible refine nth_setN_ne ?_ ?_); (first | assumption | omega | (simp; omega))) | ((with_reducible apply nth_new); (first | assumption | (simp; done) | (simp; omega) | (simp [setN_length]; done) | (simp [setN_length]; omega))) | with_reducible apply nth_app)); done))))
      | ((with_reducible apply NeedLen.mk); · (first | assumption | rfl))
      | ((with_reducible apply NeedRow.mk); · (first | rfl | (first | assumption | ((repeat (first | assumption | with_reducible apply nth_setN_same | ((with_reducible refine nth_setN_ne ?_ ?_); (first | assumption | omega | (simp; omega))) | ((with_reducible apply nth_new); (first | assumption | (simp; done) | (simp; omega) | (simp [setN_length]; done) | (simp [setN_length]; omega))) | with_reducible apply nth_app)); done))))
      | ((with_reducible apply DrawG.mk (List.replicate 60 false)); · (decide +kernel))
      | with_reducible refine NewP.mk (fun id hid => ?_)
      | with_reducible refine NilP.mk (fun e he => ?_)
      | with_reducible exact trivial
      | with_reducible exact And.intro rfl rfl
      | ((with_reducible apply PreP.mk); · (first | with_reducible rfl | assumption | omega | (constructor <;> omega)))
      | refine Exists.intro _ (PreP.mk (bytesOf_lst _) ?_)
      | refine PreP.mk (lenD_lst _) ?_
      | with_reducible refine PreP.mk ?_ ?_
      | with_reducible refine BothP.mk ?_ ?_
      | ((with_reducible apply AncOr.anc); · (decide +kernel))
      | with_reducible refine AncOr.go ?_)
  refine CallOK.go (c14 _) (fun r H0 hr => ?_)
  obtain ⟨rfl, rfl⟩ := hr
  repeat' (first
      | ((with_reducible apply Onw.mk); conv => whnf)
      | with_reducible apply Br.tt
      | with_reducible apply Br.ff
      | with_reducible apply Br.no
      | ((with_reducible apply Br.t); · (assumption))
      | ((with_reducible apply Br.f); · (assumption))
      | ((with_reducible apply Br.dt); · (first | assumption | omega))
      | ((with_reducible apply Br.df); · (first | assumption | omega))
      | with_reducible refine Br.dec (fun hc => ?_) (fun hc => ?_)
      | with_reducible refine Br.mk (fun hc => ?_) (fun hc => ?_)
      | ((with_reducible apply NeedRows.mk); · ((first | assumption | ((repeat (first | assumption | with_reducible apply nth_setN_same | ((with_reducible refine nth_setN_ne ?_ ?_); (first | assumption | omega | (simp; omega))) | ((with_reducible apply nth_new); (first | assumption | (simp; done) | (simp; omega) | (simp [setN_length]; done) | (simp [setN_length]; omega))) | with_reducible apply nth_app)); done))))
      | ((with_reducible apply NeedMap.mk); · ((first | assumption | ((repeat (first | assumption | with_reducible apply nth_setN_same | ((with_reducible refine nth_setN_ne ?_ ?_); (first | assumption | omega | (simp; omega))) | ((with_reducible apply nth_new); (first | assumption | (simp; done) | (simp; omega) | (simp [setN_length]; done) | (simp [setN_length]; omega))) | with_reducible apply nth_app)); done))))
      | ((with_reducible apply NeedIter.mk); · ((first | assumption | ((repeat (first | assumption | with_reducible apply nth_setN_same | ((with_reducible refine nth_setN_ne ?_ ?_); (first | assumption | omega | (simp; omega))) | ((with_reducible apply nth_new); (first | assumption | (simp; done) | (simp; omega) | (simp [setN_length]; done) | (simp [setN_length]; omega))) | with_reducible apply nth_app)); done))))
      | ((with_reducible apply NeedLen.mk); · (first | assumption | rfl))
      | ((with_reducible apply NeedRow.mk); · (first | rfl | (first | assumption | ((repeat (first | assumption | with_reducible apply nth_setN_same | ((with_reducible refine nth_setN_ne ?_ ?_); (first | assumption | omega | (simp; omega))) | ((with_reducible apply nth_new); (first | assumption | (simp; done) | (simp; omega) | (simp [setN_length]; done) | (simp [setN_length]; omega))) | with_reducible apply nth_app)); done))))
      | ((with_reducible apply DrawG.mk (List.replicate 60 false)); · (decide +kernel))
      | with_reducible refine NewP.mk (fun id hid => ?_)
      | with_reducible refine NilP.mk (fun e he => ?_)
      | with_reducible exact trivial
      | with_reducible exact And.intro rfl rfl
      | ((with_reducible apply PreP.mk); · (first | with_reducible rfl | assumption | omega | (constructor <;> omega)))
      | refine Exists.intro _ (PreP.mk (bytesOf_lst _) ?_)
      | refine PreP.mk (lenD_lst _) ?_
      | with_reducible refine PreP.mk ?_ ?_
      | with_reducible refine BothP.mk ?_ ?_
      | ((with_reducible apply AncOr.anc); · (decide +kernel))
      | with_reducible refine AncOr.go ?_)
  · exact rfl
  · exact rfl
  refine CallOK.go (a15 _ _) (fun r H0 hr => ?_)
  obtain ⟨d, ids0, rfl, hd0, hg0⟩ := hr
  have ha2 : a.length ≤ 100 := by omega
  have hb2 : b.length ≤ 100 := by omega
  repeat' (first
      | ((with_reducible apply Onw.mk); conv => whnf)
      | with_reducible apply Br.tt
      | with_reducible apply Br.ff
      | with_reducible apply Br.no
      | ((with_reducible apply Br.t); · (assumption))
      | ((with_reducible apply Br.f); · (assumption))
      | ((with_reducible apply Br.dt); · (first | assumption | omega))
      | ((with_reducible apply Br.df); · (first | assumption | omega))
      | with_reducible refine Br.dec (fun hc => ?_) (fun hc => ?_)
      | with_reducible refine Br.mk (fun hc => ?_) (fun hc => ?_)
      | ((with_reducible apply NeedRows.mk); · ((first | assumption | ((repeat (first | assumption | with_reducible apply nth_setN_same | ((with_reducible refine nth_setN_ne ?_ ?_); (first | assumption | omega | (simp; omega))) | ((with_reducible apply nth_new); (first | assumption | (simp; done) | (simp; omega) | (simp [setN_length]; done) | (simp [setN_length]; omega))) | with_reducible apply nth_app)); done))))
      | ((with_reducible apply NeedMap.mk); · ((first | assumption | ((repeat (first | assumption | with_reducible apply nth_setN_same | ((with_reducible refine nth_setN_ne ?_ ?_); (first | assumption | omega | (simp; omega))) | ((with_reducible apply nth_new); (first | assumption | (simp; done) | (simp; omega) | (simp [setN_length]; done) | (simp [setN_length]; omega))) | with_reducible apply nth_app)); done))))
      | ((with_reducible apply NeedIter.mk); · ((first | assumption | ((repeat (first | assumption | with_reducible apply nth_setN_same | ((with_reducible refine nth_setN_ne ?_ ?_); (first | assumption | omega | (simp; omega))) | ((with_reducible apply nth_new); (first | assumption | (simp; done) | (simp; omega) | (simp [setN_length]; done) | (simp [setN_length]; omega))) | with_reducible apply nth_app)); done))))
      | ((with_reducible apply NeedLen.mk); · (first | assumption | rfl))
      | ((with_reducible apply NeedRow.mk); · (first | rfl | (first | assumption | ((repeat (first | assumption | with_reducible apply nth_setN_same | ((with_reducible refine nth_setN_ne ?_ ?_); (first | assumption | omega | (simp; omega))) | ((with_reducible apply nth_new); (first | assumption | (simp; done) | (simp; omega) | (simp [setN_length]; done) | (simp [setN_length]; omega))) | with_reducible apply nth_app)); done))))
      | ((with_reducible apply DrawG.mk (List.replicate 60 false)); · (decide +kernel))
      | with_reducible refine NewP.mk (fun id hid => ?_)
      | with_reducible refine NilP.mk (fun e he => ?_)
      | with_reducible exact trivial
      | with_reducible exact And.intro rfl rfl
      | ((with_reducible apply PreP.mk); · (first | with_reducible rfl | assumption | omega | (constructor <;> omega)))
      | refine Exists.intro _ (PreP.mk (bytesOf_lst _) ?_)
      | refine PreP.mk (lenD_lst _) ?_
      | with_reducible refine PreP.mk ?_ ?_
      | with_reducible refine BothP.mk ?_ ?_
      | ((with_reducible apply AncOr.anc); · (decide +kernel))
      | with_reducible refine AncOr.go ?_)
  refine CallOK.go (a16 hd0 ⟨by decide, by decide, by decide, by decide⟩ [110] a (by decide) (by omega)) (fun r H1 hr => ?_)
  obtain ⟨rfl, ids1, hd1, hg1⟩ := hr
  have hE1 : appendR ⟨0, 0, 1000, []⟩ [110] a = 0 := appR_new (by decide) (by decide) (by simp [usedM]; omega) (by decide) (by decide) (by decide) (by decide)
  have hM1 : appendM ⟨0, 0, 1000, []⟩ [110] a = ⟨1, 0, 1000, [⟨[110], a, 0⟩]⟩ := by unfold appendM; rw [hE1]; rfl
  rw [hM1] at hd1; rw [hE1]
  repeat' (first
      | ((with_reducible apply Onw.mk); conv => whnf)
      | with_reducible apply Br.tt
      | with_reducible apply Br.ff
      | with_reducible apply Br.no
      | ((with_reducible apply Br.t); · (assumption))
      | ((with_reducible apply Br.f); · (assumption))
      | ((with_reducible apply Br.dt); · (first | assumption | omega))
      | ((with_reducible apply Br.df); · (first | assumption | omega))
      | with_reducible refine Br.dec (fun hc => ?_) (fun hc => ?_)
      | with_reducible refine Br.mk (fun hc => ?_) (fun hc => ?_)
      | ((with_reducible apply NeedRows.mk); · ((first | assumption | ((repeat (first | assumption | with_reducible apply nth_setN_same | ((with_reducible refine nth_setN_ne ?_ ?_); (first | assumption | omega | (simp; omega))) | ((with_reducible apply nth_new); (first | assumption | (simp; done) | (simp; omega) | (simp [setN_length]; done) | (simp [setN_length]; omega))) | with_reducible apply nth_app)); done))))
      | ((with_reducible apply NeedMap.mk); · ((first | assumption | ((repeat (first | assumption | with_reducible apply nth_setN_same | ((with_reducible refine nth_setN_ne ?_ ?_); (first | assumption | omega | (simp; omega))) | ((with_reducible apply nth_new); (first | assumption | (simp; done) | (simp; omega) | (simp [setN_length]; done) | (simp [setN_length]; omega))) | with_reducible apply nth_app)); done))))
      | ((with_reducible apply NeedIter.mk); · ((first | assumption | ((repeat (first | assumption | with_reducible apply nth_setN_same | ((with_reducible refine nth_setN_ne ?_ ?_); (first | assumption | omega | (simp; omega))) | ((with_reducible apply nth_new); (first | assumption | (simp; done) | (simp; omega) | (simp [setN_length]; done) | (simp [setN_length]; omega))) | with_reducible apply nth_app)); done))))
      | ((with_reducible apply NeedLen.mk); · (first | assumption | rfl))
      | ((with_reducible apply NeedRow.mk); · (first | rfl | (first | assumption | ((repeat (first | assumption | with_reducible apply nth_setN_same | ((with_reducible refine nth_setN_ne ?_ ?_); (first | assumption | omega | (simp; omega))) | ((with_reducible apply nth_new); (first | assumption | (simp; done) | (simp; omega) | (simp [setN_length]; done) | (simp [setN_length]; omega))) | with_reducible apply nth_app)); done))))
      | ((with_reducible apply DrawG.mk (List.replicate 60 false)); · (decide +kernel))
      | with_reducible refine NewP.mk (fun id hid => ?_)
      | with_reducible refine NilP.mk (fun e he => ?_)
      | with_reducible exact trivial
      | with_reducible exact And.intro rfl rfl
      | ((with_reducible apply PreP.mk); · (first | with_reducible rfl | assumption | omega | (constructor <;> omega)))
      | refine Exists.intro _ (PreP.mk (bytesOf_lst _) ?_)
      | refine PreP.mk (lenD_lst _) ?_
      | with_reducible refine PreP.mk ?_ ?_
      | with_reducible refine BothP.mk ?_ ?_
      | ((with_reducible apply AncOr.anc); · (decide +kernel))
      | with_reducible refine AncOr.go ?_)
  refine CallOK.go (a16 hd1 ⟨by simp, by simp, by simp [usedM]; omega, by simp⟩ [109] b (by decide) (by omega)) (fun r H2 hr => ?_)
  obtain ⟨rfl, ids2, hd2, hg2⟩ := hr
  have hE2 : appendR ⟨1, 0, 1000, [⟨[110], a, 0⟩]⟩ [109] b = 0 := appR_new rfl (by decide) (by simp [usedM]; omega) (by simp) (by simp) (by simp [usedM]; omega) (by simp)
  have hM2 : appendM ⟨1, 0, 1000, [⟨[110], a, 0⟩]⟩ [109] b = ⟨2, 0, 1000, [⟨[110], a, 0⟩, ⟨[109], b, 0⟩]⟩ := by unfold appendM; rw [hE2]; rfl
  rw [hM2] at hd2; rw [hE2]
  repeat' (first
      | ((with_reducible apply Onw.mk); conv => whnf)
      | with_reducible apply Br.tt
      | with_reducible apply Br.ff
      | with_reducible apply Br.no
      | ((with_reducible apply Br.t); · (assumption))
      | ((with_reducible apply Br.f); · (assumption))
      | ((with_reducible apply Br.dt); · (first | assumption | omega))
      | ((with_reducible apply Br.df); · (first | assumption | omega))
      | with_reducible refine Br.dec (fun hc => ?_) (fun hc => ?_)
      | with_reducible refine Br.mk (fun hc => ?_) (fun hc => ?_)
      | ((with_reducible apply NeedRows.mk); · ((first | assumption | ((repeat (first | assumption | with_reducible apply nth_setN_same | ((with_reducible refine nth_setN_ne ?_ ?_); (first | assumption | omega | (simp; omega))) | ((with_reducible apply nth_new); (first | assumption | (simp; done) | (simp; omega) | (simp [setN_length]; done) | (simp [setN_length]; omega))) | with_reducible apply nth_app)); done))))
      | ((with_reducible apply NeedMap.mk); · ((first | assumption | ((repeat (first | assumption | with_reducible apply nth_setN_same | ((with_reducible refine nth_setN_ne ?_ ?_); (first | assumption | omega | (simp; omega))) | ((with_reducible apply nth_new); (first | assumption | (simp; done) | (simp; omega) | (simp [setN_length]; done) | (simp [setN_length]; omega))) | with_reducible apply nth_app)); done))))
      | ((with_reducible apply NeedIter.mk); · ((first | assumption | ((repeat (first | assumption | with_reducible apply nth_setN_same | ((with_reducible refine nth_setN_ne ?_ ?_); (first | assumption | omega | (simp; omega))) | ((with_reducible apply nth_new); (first | assumption | (simp; done) | (simp; omega) | (simp [setN_length]; done) | (simp [setN_length]; omega))) | with_reducible apply nth_app)); done))))
      | ((with_reducible apply NeedLen.mk); · (first | assumption | rfl))
      | ((with_reducible apply NeedRow.mk); · (first | rfl | (first | assumption | ((repeat (first | assumption | with_reducible apply nth_setN_same | ((with_reducible refine nth_setN_ne ?_ ?_); (first | assumption | omega | (simp; omega))) | ((with_reducible apply nth_new); (first | assumption | (simp; done) | (simp; omega) | (simp [setN_length]; done) | (simp [setN_length]; omega))) | with_reducible apply nth_app)); done))))
      | ((with_reducible apply DrawG.mk (List.replicate 60 false)); · (decide +kernel))
      | with_reducible refine NewP.mk (fun id hid => ?_)
      | with_reducible refine NilP.mk (fun e he => ?_)
      | with_reducible exact trivial
      | with_reducible exact And.intro rfl rfl
      | ((with_reducible apply PreP.mk); · (first | with_reducible rfl | assumption | omega | (constructor <;> omega)))
      | refine Exists.intro _ (PreP.mk (bytesOf_lst _) ?_)
      | refine PreP.mk (lenD_lst _) ?_
      | with_reducible refine PreP.mk ?_ ?_
      | with_reducible refine BothP.mk ?_ ?_
      | ((with_reducible apply AncOr.anc); · (decide +kernel))
      | with_reducible refine AncOr.go ?_)
  refine CallOK.go (a17 hd2 ⟨by simp, by simp, by simp [usedM]; omega, by simp⟩ [109]) (fun r H3 hr => ?_)
  obtain ⟨rfl, ids3, hd3, hg3⟩ := hr
  have hE3 : errM ⟨2, 0, 1000, [⟨[110], a, 0⟩, ⟨[109], b, 0⟩]⟩ [109] = 0 := rfl
  have hM3 : syncM ⟨2, 0, 1000, [⟨[110], a, 0⟩, ⟨[109], b, 0⟩]⟩ [109] = ⟨3, 0, 1000, [⟨[110], a, 0⟩, ⟨[109], b, b.length⟩]⟩ := by unfold syncM; rw [hE3]; rfl
  rw [hM3] at hd3; rw [hE3]
  repeat' (first
      | ((with_reducible apply Onw.mk); conv => whnf)
      | with_reducible apply Br.tt
      | with_reducible apply Br.ff
      | with_reducible apply Br.no
      | ((with_reducible apply Br.t); · (assumption))
      | ((with_reducible apply Br.f); · (assumption))
      | ((with_reducible apply Br.dt); · (first | assumption | omega))
      | ((with_reducible apply Br.df); · (first | assumption | omega))
      | with_reducible refine Br.dec (fun hc => ?_) (fun hc => ?_)
      | with_reducible refine Br.mk (fun hc => ?_) (fun hc => ?_)
      | ((with_reducible apply NeedRows.mk); · ((first | assumption | ((repeat (first | assumption | with_reducible apply nth_setN_same | ((with_reducible refine nth_setN_ne ?_ ?_); (first | assumption | omega | (simp; omega))) | ((with_reducible apply nth_new); (first | assumption | (simp; done) | (simp; omega) | (simp [setN_length]; done) | (simp [setN_length]; omega))) | with_reducible apply nth_app)); done))))
      | ((with_reducible apply NeedMap.mk); · ((first | assumption | ((repeat (first | assumption | with_reducible apply nth_setN_same | ((with_reducible refine nth_setN_ne ?_ ?_); (first | assumption | omega | (simp; omega))) | ((with_reducible apply nth_new); (first | assumption | (simp; done) | (simp; omega) | (simp [setN_length]; done) | (simp [setN_length]; omega))) | with_reducible apply nth_app)); done))))
      | ((with_reducible apply NeedIter.mk); · ((first | assumption | ((repeat (first | assumption | with_reducible apply nth_setN_same | ((with_reducible refine nth_setN_ne ?_ ?_); (first | assumption | omega | (simp; omega))) | ((with_reducible apply nth_new); (first | assumption | (simp; done) | (simp; omega) | (simp [setN_length]; done) | (simp [setN_length]; omega))) | with_reducible apply nth_app)); done))))
      | ((with_reducible apply NeedLen.mk); · (first | assumption | rfl))
      | ((with_reducible apply NeedRow.mk); · (first | rfl | (first | assumption | ((repeat (first | assumption | with_reducible apply nth_setN_same | ((with_reducible refine nth_setN_ne ?_ ?_); (first | assumption | omega | (simp; omega))) | ((with_reducible apply nth_new); (first | assumption | (simp; done) | (simp; omega) | (simp [setN_length]; done) | (simp [setN_length]; omega))) | with_reducible apply nth_app)); done))))
      | ((with_reducible apply DrawG.mk (List.replicate 60 false)); · (decide +kernel))
      | with_reducible refine NewP.mk (fun id hid => ?_)
      | with_reducible refine NilP.mk (fun e he => ?_)
      | with_reducible exact trivial
      | with_reducible exact And.intro rfl rfl
      | ((with_reducible apply PreP.mk); · (first | with_reducible rfl | assumption | omega | (constructor <;> omega)))
      | refine Exists.intro _ (PreP.mk (bytesOf_lst _) ?_)
      | refine PreP.mk (lenD_lst _) ?_
      | with_reducible refine PreP.mk ?_ ?_
      | with_reducible refine BothP.mk ?_ ?_
      | ((with_reducible apply AncOr.anc); · (decide +kernel))
      | with_reducible refine AncOr.go ?_)
  all_goals first
    | (refine CallOK.go (a17 hd3 ⟨by simp, by simp, by simp [usedM]; omega, by simp⟩ [110]) (fun r H4 hr => ?_)
       obtain ⟨rfl, ids4, hd4, hg4⟩ := hr
       have hE4 : errM ⟨3, 0, 1000, [⟨[110], a, 0⟩, ⟨[109], b, b.length⟩]⟩ [110] = 0 := rfl
       have hM4 : syncM ⟨3, 0, 1000, [⟨[110], a, 0⟩, ⟨[109], b, b.length⟩]⟩ [110] = ⟨4, 0, 1000, [⟨[110], a, a.length⟩, ⟨[109], b, b.length⟩]⟩ := by unfold syncM; rw [hE4]; rfl
       rw [hM4] at hd4; rw [hE4]
       repeat' (first
           | ((with_reducible apply Onw.mk); conv => whnf)
           | with_reducible apply Br.tt
           | with_reducible apply Br.ff
           | with_reducible apply Br.no
           | ((with_reducible apply Br.t); · (assumption))
           | ((with_reducible apply Br.f); · (assumption))
           | ((with_reducible apply Br.dt); · (first | assumption | omega))
           | ((with_reducible apply Br.df); · (first | assumption | omega))
           | with_reducible refine Br.dec (fun hc => ?_) (fun hc => ?_)
           | with_reducible refine Br.mk (fun hc => ?_) (fun hc => ?_)
           | ((with_reducible apply NeedRows.mk); · ((first | assumption | ((repeat (first | assumption | with_reducible apply nth_setN_same | ((with_reducible refine nth_setN_ne ?_ ?_); (first | assumption | omega | (simp; omega))) | ((with_reducible apply nth_new); (first | assumption | (simp; done) | (simp; omega) | (simp [setN_length]; done) | (simp [setN_length]; omega))) | with_reducible apply nth_app)); done))))
           | ((with_reducible apply NeedMap.mk); · ((first | assumption | ((repeat (first | assumption | with_reducible apply nth_setN_same | ((with_reducible refine nth_setN_ne ?_ ?_); (first | assumption | omega | (simp; omega))) | ((with_reducible apply nth_new); (first | assumption | (simp; done) | (simp; omega) | (simp [setN_length]; done) | (simp [setN_length]; omega))) | with_reducible apply nth_app)); done))))
           | ((with_reducible apply NeedIter.mk); · ((first | assumption | ((repeat (first | assumption | with_reducible apply nth_setN_same | ((with_reducible refine nth_setN_ne ?_ ?_); (first | assumption | omega | (simp; omega))) | ((with_reducible apply nth_new); (first | assumption | (simp; done) | (simp; omega) | (simp [setN_length]; done) | (simp [setN_length]; omega))) | with_reducible apply nth_app)); done))))
           | ((with_reducible apply NeedLen.mk); · (first | assumption | rfl))
           | ((with_reducible apply NeedRow.mk); · (first | rfl | (first | assumption | ((repeat (first | assumption | with_reducible apply nth_setN_same | ((with_reducible refine nth_setN_ne ?_ ?_); (first | assumption | omega | (simp; omega))) | ((with_reducible apply nth_new); (first | assumption | (simp; done) | (simp; omega) | (simp [setN_length]; done) | (simp [setN_length]; omega))) | with_reducible apply nth_app)); done))))
           | ((with_reducible apply DrawG.mk (List.replicate 60 false)); · (decide +kernel))
           | with_reducible refine NewP.mk (fun id hid => ?_)
           | with_reducible refine NilP.mk (fun e he => ?_)
           | with_reducible exact trivial
           | with_reducible exact And.intro rfl rfl
           | ((with_reducible apply PreP.mk); · (first | with_reducible rfl | assumption | omega | (constructor <;> omega)))
           | refine Exists.intro _ (PreP.mk (bytesOf_lst _) ?_)
           | refine PreP.mk (lenD_lst _) ?_
           | with_reducible refine PreP.mk ?_ ?_
           | with_reducible refine BothP.mk ?_ ?_
           | ((with_reducible apply AncOr.anc); · (decide +kernel))
           | with_reducible refine AncOr.go ?_)
       have hd : ∃ (st : Int) (kp : Nat) (ids : List Nat), DiskIs H4 d ⟨st, 0, 1000, [⟨[110], a, kp⟩, ⟨[109], b, b.length⟩]⟩ ids ∧ (sy = true → kp = a.length) ∧ kp ≤ a.length ∧ 0 ≤ st ∧ st ≤ 10 := ⟨4, _, _, hd4, fun _ => rfl, Nat.le_refl _, by decide, by decide⟩)
    | (have hsy : sy = false := hc
       have hd : ∃ (st : Int) (kp : Nat) (ids : List Nat), DiskIs H3 d ⟨st, 0, 1000, [⟨[110], a, kp⟩, ⟨[109], b, b.length⟩]⟩ ids ∧ (sy = true → kp = a.length) ∧ kp ≤ a.length ∧ 0 ≤ st ∧ st ≤ 10 := ⟨3, _, _, hd3, fun h => (by rw [hsy] at h; cases h), Nat.zero_le _, by decide, by decide⟩)
  all_goals
    obtain ⟨st, kp, ids, hd, hkp1, hkp2, hst1, hst2⟩ := hd
    have hR1 : renameR ⟨st, 0, 1000, [⟨[110], a, kp⟩, ⟨[109], b, b.length⟩]⟩ [110] [109] = 0 := rfl
    have hR2 : renameM ⟨st, 0, 1000, [⟨[110], a, kp⟩, ⟨[109], b, b.length⟩]⟩ [110] [109] = ⟨st + 1, 0, 1000, [⟨[109], a, kp⟩]⟩ := by unfold renameM; rw [hR1]; rfl
    refine CallOK.go (a25 hd ⟨by simp; omega, by simp; omega, by simp [usedM]; omega, by simp⟩ [110] [109] (by decide)) (fun r H5 hr => ?_)
    obtain ⟨rfl, ids5, hd5, hg5⟩ := hr
    rw [hR2] at hd5; rw [hR1]
    repeat' (first
        | ((with_reducible apply Onw.mk); conv => whnf)
        | with_reducible apply Br.tt
        | with_reducible apply Br.ff
        | with_reducible apply Br.no
        | ((with_reducible apply Br.t); · (assumption))
        | ((with_reducible apply Br.f); · (assumption))
        | ((with_reducible apply Br.dt); · (first | assumption | omega))
        | ((with_reducible apply Br.df); · (first | assumption | omega))
        | with_reducible refine Br.dec (fun hc => ?_) (fun hc => ?_)
        | with_reducible refine Br.mk (fun hc => ?_) (fun hc => ?_)
        | ((with_reducible apply NeedRows.mk); · ((first | assumption | ((repeat (first | assumption | with_reducible apply nth_setN_same | ((with_reducible refine nth_setN_ne ?_ ?_); (first | assumption | omega | (simp; omega))) | ((with_reducible apply nth_new); (first | assumption | (simp; done) | (simp; omega) | (simp [setN_length]; done) | (simp [setN_length]; omega))) | with_reducible apply nth_app)); done))))
        | ((with_reducible apply NeedMap.mk); · ((first | assumption | ((repeat (first | assumption | with_reducible apply nth_setN_same | ((with_reducible refine nth_setN_ne ?_ ?_); (first | assumption | omega | (simp; omega))) | ((with_reducible apply nth_new); (first | assumption | (simp; done) | (simp; omega) | (simp [setN_length]; done) | (simp [setN_length]; omega))) | with_reducible apply nth_app)); done))))
        | ((with_reducible apply NeedIter.mk); · ((first | assumption | ((repeat (first | assumption | with_reducible apply nth_setN_same | ((with_reducible refine nth_setN_ne ?_ ?_); (first | assumption | omega | (simp; omega))) | ((with_reducible apply nth_new); (first | assumption | (simp; done) | (simp; omega) | (simp [setN_length]; done) | (simp [setN_length]; omega))) | with_reducible apply nth_app)); done))))
        | ((with_reducible apply NeedLen.mk); · (first | assumption | rfl))
        | ((with_reducible apply NeedRow.mk); · (first | rfl | (first | assumption | ((repeat (first | assumption | with_reducible apply nth_setN_same | ((with_reducible refine nth_setN_ne ?_ ?_); (first | assumption | omega | (simp; omega))) | ((with_reducible apply nth_new); (first | assumption | (simp; done) | (simp; omega) | (simp [setN_length]; done) | (simp [setN_length]; omega))) | with_reducible apply nth_app)); done))))
        | ((with_reducible apply DrawG.mk (List.replicate 60 false)); · (decide +kernel))
        | with_reducible refine NewP.mk (fun id hid => ?_)
        | with_reducible refine NilP.mk (fun e he => ?_)
        | with_reducible exact trivial
        | with_reducible exact And.intro rfl rfl
        | ((with_reducible apply PreP.mk); · (first | with_reducible rfl | assumption | omega | (constructor <;> omega)))
        | refine Exists.intro _ (PreP.mk (bytesOf_lst _) ?_)
        | refine PreP.mk (lenD_lst _) ?_
        | with_reducible refine PreP.mk ?_ ?_
        | with_reducible refine BothP.mk ?_ ?_
        | ((with_reducible apply AncOr.anc); · (decide +kernel))
        | with_reducible refine AncOr.go ?_)
    refine CallOK.go (a19 hd5 [109]) (fun r H6 hr => ?_)
    obtain ⟨rfl, rfl⟩ := hr
    have hQ1 : readM ⟨st + 1, 0, 1000, [⟨[109], a, kp⟩]⟩ [109] = .tup [.p (.lst (a.map byteRow)), i64 0] := rfl
    rw [hQ1]
    repeat' (first
        | ((with_reducible apply Onw.mk); conv => whnf)
        | with_reducible apply Br.tt
        | with_reducible apply Br.ff
        | with_reducible apply Br.no
        | ((with_reducible apply Br.t); · (assumption))
        | ((with_reducible apply Br.f); · (assumption))
        | ((with_reducible apply Br.dt); · (first | assumption | omega))
        | ((with_reducible apply Br.df); · (first | assumption | omega))
        | with_reducible refine Br.dec (fun hc => ?_) (fun hc => ?_)
        | with_reducible refine Br.mk (fun hc => ?_) (fun hc => ?_)
        | ((with_reducible apply NeedRows.mk); · ((first | assumption | ((repeat (first | assumption | with_reducible apply nth_setN_same | ((with_reducible refine nth_setN_ne ?_ ?_); (first | assumption | omega | (simp; omega))) | ((with_reducible apply nth_new); (first | assumption | (simp; done) | (simp; omega) | (simp [setN_length]; done) | (simp [setN_length]; omega))) | with_reducible apply nth_app)); done))))
        | ((with_reducible apply NeedMap.mk); · ((first | assumption | ((repeat (first | assumption | with_reducible apply nth_setN_same | ((with_reducible refine nth_setN_ne ?_ ?_); (first | assumption | omega | (simp; omega))) | ((with_reducible apply nth_new); (first | assumption | (simp; done) | (simp; omega) | (simp [setN_length]; done) | (simp [setN_length]; omega))) | with_reducible apply nth_app)); done))))
        | ((with_reducible apply NeedIter.mk); · ((first | assumption | ((repeat (first | assumption | with_reducible apply nth_setN_same | ((with_reducible refine nth_setN_ne ?_ ?_); (first | assumption | omega | (simp; omega))) | ((with_reducible apply nth_new); (first | assumption | (simp; done) | (simp; omega) | (simp [setN_length]; done) | (simp [setN_length]; omega))) | with_reducible apply nth_app)); done))))
        | ((with_reducible apply NeedLen.mk); · (first | assumption | rfl))
        | ((with_reducible apply NeedRow.mk); · (first | rfl | (first | assumption | ((repeat (first | assumption | with_reducible apply nth_setN_same | ((with_reducible refine nth_setN_ne ?_ ?_); (first | assumption | omega | (simp; omega))) | ((with_reducible apply nth_new); (first | assumption | (simp; done) | (simp; omega) | (simp [setN_length]; done) | (simp [setN_length]; omega))) | with_reducible apply nth_app)); done))))
        | ((with_reducible apply DrawG.mk (List.replicate 60 false)); · (decide +kernel))
        | with_reducible refine NewP.mk (fun id hid => ?_)
        | with_reducible refine NilP.mk (fun e he => ?_)
        | with_reducible exact trivial
        | with_reducible exact And.intro rfl rfl
        | ((with_reducible apply PreP.mk); · (first | with_reducible rfl | assumption | omega | (constructor <;> omega)))
        | refine Exists.intro _ (PreP.mk (bytesOf_lst _) ?_)
        | refine PreP.mk (lenD_lst _) ?_
        | with_reducible refine PreP.mk ?_ ?_
        | with_reducible refine BothP.mk ?_ ?_
        | ((with_reducible apply AncOr.anc); · (decide +kernel))
        | with_reducible refine AncOr.go ?_)
    refine CallOK.go (a23 hd5 ⟨by simp; omega, by simp; omega, by simp [usedM]; omega, by simp⟩) (fun r H6 hr => ?_)
    obtain ⟨rfl, rfl⟩ := hr
    have hQ2 : listM ⟨st + 1, 0, 1000, [⟨[109], a, kp⟩]⟩ = .p (.lst [strRow [109]]) := by
      unfold listM namesM
      simp [offB]
    rw [hQ2]
    repeat' (first
        | ((with_reducible apply Onw.mk); conv => whnf)
        | with_reducible apply Br.tt
        | with_reducible apply Br.ff
        | with_reducible apply Br.no
        | ((with_reducible apply Br.t); · (assumption))
        | ((with_reducible apply Br.f); · (assumption))
        | ((with_reducible apply Br.dt); · (first | assumption | omega))
        | ((with_reducible apply Br.df); · (first | assumption | omega))
        | with_reducible refine Br.dec (fun hc => ?_) (fun hc => ?_)
        | with_reducible refine Br.mk (fun hc => ?_) (fun hc => ?_)
        | ((with_reducible apply NeedRows.mk); · ((first | assumption | ((repeat (first | assumption | with_reducible apply nth_setN_same | ((with_reducible refine nth_setN_ne ?_ ?_); (first | assumption | omega | (simp; omega))) | ((with_reducible apply nth_new); (first | assumption | (simp; done) | (simp; omega) | (simp [setN_length]; done) | (simp [setN_length]; omega))) | with_reducible apply nth_app)); done))))
        | ((with_reducible apply NeedMap.mk); · ((first | assumption | ((repeat (first | assumption | with_reducible apply nth_setN_same | ((with_reducible refine nth_setN_ne ?_ ?_); (first | assumption | omega | (simp; omega))) | ((with_reducible apply nth_new); (first | assumption | (simp; done) | (simp; omega) | (simp [setN_length]; done) | (simp [setN_length]; omega))) | with_reducible apply nth_app)); done))))
        | ((with_reducible apply NeedIter.mk); · ((first | assumption | ((repeat (first | assumption | with_reducible apply nth_setN_same | ((with_reducible refine nth_setN_ne ?_ ?_); (first | assumption | omega | (simp; omega))) | ((with_reducible apply nth_new); (first | assumption | (simp; done) | (simp; omega) | (simp [setN_length]; done) | (simp [setN_length]; omega))) | with_reducible apply nth_app)); done))))
        | ((with_reducible apply NeedLen.mk); · (first | assumption | rfl))
        | ((with_reducible apply NeedRow.mk); · (first | rfl | (first | assumption | ((repeat (first | assumption | with_reducible apply nth_setN_same | ((with_reducible refine nth_setN_ne ?_ ?_); (first | assumption | omega | (simp; omega))) | ((with_reducible apply nth_new); (first | assumption | (simp; done) | (simp; omega) | (simp [setN_length]; done) | (simp [setN_length]; omega))) | with_reducible apply nth_app)); done))))
        | ((with_reducible apply DrawG.mk (List.replicate 60 false)); · (decide +kernel))
        | with_reducible refine NewP.mk (fun id hid => ?_)
        | with_reducible refine NilP.mk (fun e he => ?_)
        | with_reducible exact trivial
        | with_reducible exact And.intro rfl rfl
        | ((with_reducible apply PreP.mk); · (first | with_reducible rfl | assumption | omega | (constructor <;> omega)))
        | refine Exists.intro _ (PreP.mk (bytesOf_lst _) ?_)
        | refine PreP.mk (lenD_lst _) ?_
        | with_reducible refine PreP.mk ?_ ?_
        | with_reducible refine BothP.mk ?_ ?_
        | ((with_reducible apply AncOr.anc); · (decide +kernel))
        | with_reducible refine AncOr.go ?_)
    refine CallOK.go (a20 hd5 ⟨by simp; omega, by simp; omega, by simp [usedM]; omega, by simp⟩) (fun r H6 hr => ?_)
    obtain ⟨rfl, rfl⟩ := hr
    have hQ3 : usedM ⟨st + 1, 0, 1000, [⟨[109], a, kp⟩]⟩ = a.length := by simp [usedM]
    rw [hQ3]
    repeat' (first
        | ((with_reducible apply Onw.mk); conv => whnf)
        | with_reducible apply Br.tt
        | with_reducible apply Br.ff
        | with_reducible apply Br.no
        | ((with_reducible apply Br.t); · (assumption))
        | ((with_reducible apply Br.f); · (assumption))
        | ((with_reducible apply Br.dt); · (first | assumption | omega))
        | ((with_reducible apply Br.df); · (first | assumption | omega))
        | with_reducible refine Br.dec (fun hc => ?_) (fun hc => ?_)
        | with_reducible refine Br.mk (fun hc => ?_) (fun hc => ?_)
        | ((with_reducible apply NeedRows.mk); · ((first | assumption | ((repeat (first | assumption | with_reducible apply nth_setN_same | ((with_reducible refine nth_setN_ne ?_ ?_); (first | assumption | omega | (simp; omega))) | ((with_reducible apply nth_new); (first | assumption | (simp; done) | (simp; omega) | (simp [setN_length]; done) | (simp [setN_length]; omega))) | with_reducible apply nth_app)); done))))
        | ((with_reducible apply NeedMap.mk); · ((first | assumption | ((repeat (first | assumption | with_reducible apply nth_setN_same | ((with_reducible refine nth_setN_ne ?_ ?_); (first | assumption | omega | (simp; omega))) | ((with_reducible apply nth_new); (first | assumption | (simp; done) | (simp; omega) | (simp [setN_length]; done) | (simp [setN_length]; omega))) | with_reducible apply nth_app)); done))))
        | ((with_reducible apply NeedIter.mk); · ((first | assumption | ((repeat (first | assumption | with_reducible apply nth_setN_same | ((with_reducible refine nth_setN_ne ?_ ?_); (first | assumption | omega | (simp; omega))) | ((with_reducible apply nth_new); (first | assumption | (simp; done) | (simp; omega) | (simp [setN_length]; done) | (simp [setN_length]; omega))) | with_reducible apply nth_app)); done))))
        | ((with_reducible apply NeedLen.mk); · (first | assumption | rfl))
        | ((with_reducible apply NeedRow.mk); · (first | rfl | (first | assumption | ((repeat (first | assumption | with_reducible apply nth_setN_same | ((with_reducible refine nth_setN_ne ?_ ?_); (first | assumption | omega | (simp; omega))) | ((with_reducible apply nth_new); (first | assumption | (simp; done) | (simp; omega) | (simp [setN_length]; done) | (simp [setN_length]; omega))) | with_reducible apply nth_app)); done))))
        | ((with_reducible apply DrawG.mk (List.replicate 60 false)); · (decide +kernel))
        | with_reducible refine NewP.mk (fun id hid => ?_)
        | with_reducible refine NilP.mk (fun e he => ?_)
        | with_reducible exact trivial
        | with_reducible exact And.intro rfl rfl
        | ((with_reducible apply PreP.mk); · (first | with_reducible rfl | assumption | omega | (constructor <;> omega)))
        | refine Exists.intro _ (PreP.mk (bytesOf_lst _) ?_)
        | refine PreP.mk (lenD_lst _) ?_
        | with_reducible refine PreP.mk ?_ ?_
        | with_reducible refine BothP.mk ?_ ?_
        | ((with_reducible apply AncOr.anc); · (decide +kernel))
        | with_reducible refine AncOr.go ?_)
  any_goals exact absurd rfl hc
  all_goals
    have hR3 : renameR ⟨st + 1, 0, 1000, [⟨[109], a, kp⟩]⟩ [110] [109] = 210 := rfl
    have hR4 : renameM ⟨st + 1, 0, 1000, [⟨[109], a, kp⟩]⟩ [110] [109] = ⟨st + 1 + 1, 0, 1000, [⟨[109], a, kp⟩]⟩ := by unfold renameM; rw [hR3]; rfl
    refine CallOK.go (a25 hd5 ⟨by simp; omega, by simp; omega, by simp [usedM]; omega, by simp⟩ [110] [109] (by decide)) (fun r H7 hr => ?_)
    obtain ⟨rfl, ids7, hd7, hg7⟩ := hr
    rw [hR4] at hd7; rw [hR3]
    repeat' (first
        | ((with_reducible apply Onw.mk); conv => whnf)
        | with_reducible apply Br.tt
        | with_reducible apply Br.ff
        | with_reducible apply Br.no
        | ((with_reducible apply Br.t); · (assumption))
        | ((with_reducible apply Br.f); · (assumption))
        | ((with_reducible apply Br.dt); · (first | assumption | omega))
        | ((with_reducible apply Br.df); · (first | assumption | omega))
        | with_reducible refine Br.dec (fun hc => ?_) (fun hc => ?_)
        | with_reducible refine Br.mk (fun hc => ?_) (fun hc => ?_)
        | ((with_reducible apply NeedRows.mk); · ((first | assumption | ((repeat (first | assumption | with_reducible apply nth_setN_same | ((with_reducible refine nth_setN_ne ?_ ?_); (first | assumption | omega | (simp; omega))) | ((with_reducible apply nth_new); (first | assumption | (simp; done) | (simp; omega) | (simp [setN_length]; done) | (simp [setN_length]; omega))) | with_reducible apply nth_app)); done))))
        | ((with_reducible apply NeedMap.mk); · ((first | assumption | ((repeat (first | assumption | with_reducible apply nth_setN_same | ((with_reducible refine nth_setN_ne ?_ ?_); (first | assumption | omega | (simp; omega))) | ((with_reducible apply nth_new); (first | assumption | (simp; done) | (simp; omega) | (simp [setN_length]; done) | (simp [setN_length]; omega))) | with_reducible apply nth_app)); done))))
        | ((with_reducible apply NeedIter.mk); · ((first | assumption | ((repeat (first | assumption | with_reducible apply nth_setN_same | ((with_reducible refine nth_setN_ne ?_ ?_); (first | assumption | omega | (simp; omega))) | ((with_reducible apply nth_new); (first | assumption | (simp; done) | (simp; omega) | (simp [setN_length]; done) | (simp [setN_length]; omega))) | with_reducible apply nth_app)); done))))
        | ((with_reducible apply NeedLen.mk); · (first | assumption | rfl))
        | ((with_reducible apply NeedRow.mk); · (first | rfl | (first | assumption | ((repeat (first | assumption | with_reducible apply nth_setN_same | ((with_reducible refine nth_setN_ne ?_ ?_); (first | assumption | omega | (simp; omega))) | ((with_reducible apply nth_new); (first | assumption | (simp; done) | (simp; omega) | (simp [setN_length]; done) | (simp [setN_length]; omega))) | with_reducible apply nth_app)); done))))
        | ((with_reducible apply DrawG.mk (List.replicate 60 false)); · (decide +kernel))
        | with_reducible refine NewP.mk (fun id hid => ?_)
        | with_reducible refine NilP.mk (fun e he => ?_)
        | with_reducible exact trivial
        | with_reducible exact And.intro rfl rfl
        | ((with_reducible apply PreP.mk); · (first | with_reducible rfl | assumption | omega | (constructor <;> omega)))
        | refine Exists.intro _ (PreP.mk (bytesOf_lst _) ?_)
        | refine PreP.mk (lenD_lst _) ?_
        | with_reducible refine PreP.mk ?_ ?_
        | with_reducible refine BothP.mk ?_ ?_
        | ((with_reducible apply AncOr.anc); · (decide +kernel))
        | with_reducible refine AncOr.go ?_)
    refine NewSlice.bytes [c] rfl rfl rfl ?_
    repeat' (first
        | ((with_reducible apply Onw.mk); conv => whnf)
        | with_reducible apply Br.tt
        | with_reducible apply Br.ff
        | with_reducible apply Br.no
        | ((with_reducible apply Br.t); · (assumption))
        | ((with_reducible apply Br.f); · (assumption))
        | ((with_reducible apply Br.dt); · (first | assumption | omega))
        | ((with_reducible apply Br.df); · (first | assumption | omega))
        | with_reducible refine Br.dec (fun hc => ?_) (fun hc => ?_)
        | with_reducible refine Br.mk (fun hc => ?_) (fun hc => ?_)
        | ((with_reducible apply NeedRows.mk); · ((first | assumption | ((repeat (first | assumption | with_reducible apply nth_setN_same | ((with_reducible refine nth_setN_ne ?_ ?_); (first | assumption | omega | (simp; omega))) | ((with_reducible apply nth_new); (first | assumption | (simp; done) | (simp; omega) | (simp [setN_length]; done) | (simp [setN_length]; omega))) | with_reducible apply nth_app)); done))))
        | ((with_reducible apply NeedMap.mk); · ((first | assumption | ((repeat (first | assumption | with_reducible apply nth_setN_same | ((with_reducible refine nth_setN_ne ?_ ?_); (first | assumption | omega | (simp; omega))) | ((with_reducible apply nth_new); (first | assumption | (simp; done) | (simp; omega) | (simp [setN_length]; done) | (simp [setN_length]; omega))) | with_reducible apply nth_app)); done))))
        | ((with_reducible apply NeedIter.mk); · ((first | assumption | ((repeat (first | assumption | with_reducible apply nth_setN_same | ((with_reducible refine nth_setN_ne ?_ ?_); (first | assumption | omega | (simp; omega))) | ((with_reducible apply nth_new); (first | assumption | (simp; done) | (simp; omega) | (simp [setN_length]; done) | (simp [setN_length]; omega))) | with_reducible apply nth_app)); done))))
        | ((with_reducible apply NeedLen.mk); · (first | assumption | rfl))
        | ((with_reducible apply NeedRow.mk); · (first | rfl | (first | assumption | ((repeat (first | assumption | with_reducible apply nth_setN_same | ((with_reducible refine nth_setN_ne ?_ ?_); (first | assumption | omega | (simp; omega))) | ((with_reducible apply nth_new); (first | assumption | (simp; done) | (simp; omega) | (simp [setN_length]; done) | (simp [setN_length]; omega))) | with_reducible apply nth_app)); done))))
        | ((with_reducible apply DrawG.mk (List.replicate 60 false)); · (decide +kernel))
        | with_reducible refine NewP.mk (fun id hid => ?_)
        | with_reducible refine NilP.mk (fun e he => ?_)
        | with_reducible exact trivial
        | with_reducible exact And.intro rfl rfl
        | ((with_reducible apply PreP.mk); · (first | with_reducible rfl | assumption | omega | (constructor <;> omega)))
        | refine Exists.intro _ (PreP.mk (bytesOf_lst _) ?_)
        | refine PreP.mk (lenD_lst _) ?_
        | with_reducible refine PreP.mk ?_ ?_
        | with_reducible refine BothP.mk ?_ ?_
        | ((with_reducible apply AncOr.anc); · (decide +kernel))
        | with_reducible refine AncOr.go ?_)
    obtain ⟨y, hy, hy1, hy2, hy3, hy4⟩ : ∃ y : List UInt8, y = a.take y.length ∧ crashM ⟨st + 1 + 1, 0, 1000, [⟨[109], a, kp⟩]⟩ [c] = ⟨st + 1 + 1, 0, 1000, [⟨[109], y, y.length⟩]⟩ ∧ y.length ≤ a.length ∧ (c = 255 → y.length = a.length) ∧ (sy = true → y.length = a.length) := by
      have hle := leftN1_le c ⟨[109], a, kp⟩ hkp2
      have hl : (a.take (leftN1 c ⟨[109], a, kp⟩)).length = leftN1 c ⟨[109], a, kp⟩ := by
        rw [List.length_take]; exact Nat.min_eq_left hle
      refine ⟨a.take (leftN1 c ⟨[109], a, kp⟩), by rw [hl], by simp [crashM, namesM, crashL, crash1], by rw [hl]; exact hle, fun e => ?_, fun e => ?_⟩
      · rw [hl]; simp [leftN1, e]
      · rw [hl]
        have := hkp1 e
        subst this
        unfold leftN1
        split
        · rfl
        · simp [Nat.mod_one]
    refine CallOK.go (a18 hd7 ⟨by simp; omega, by simp; omega, by simp [usedM]; omega, by simp⟩ [c] (by simp)) (fun r H8 hr => ?_)
    obtain ⟨rfl, ids8, hd8, hg8⟩ := hr
    rw [hy1] at hd8
    repeat' (first
        | ((with_reducible apply Onw.mk); conv => whnf)
        | with_reducible apply Br.tt
        | with_reducible apply Br.ff
        | with_reducible apply Br.no
        | ((with_reducible apply Br.t); · (assumption))
        | ((with_reducible apply Br.f); · (assumption))
        | ((with_reducible apply Br.dt); · (first | assumption | omega))
        | ((with_reducible apply Br.df); · (first | assumption | omega))
        | with_reducible refine Br.dec (fun hc => ?_) (fun hc => ?_)
        | with_reducible refine Br.mk (fun hc => ?_) (fun hc => ?_)
        | ((with_reducible apply NeedRows.mk); · ((first | assumption | ((repeat (first | assumption | with_reducible apply nth_setN_same | ((with_reducible refine nth_setN_ne ?_ ?_); (first | assumption | omega | (simp; omega))) | ((with_reducible apply nth_new); (first | assumption | (simp; done) | (simp; omega) | (simp [setN_length]; done) | (simp [setN_length]; omega))) | with_reducible apply nth_app)); done))))
        | ((with_reducible apply NeedMap.mk); · ((first | assumption | ((repeat (first | assumption | with_reducible apply nth_setN_same | ((with_reducible refine nth_setN_ne ?_ ?_); (first | assumption | omega | (simp; omega))) | ((with_reducible apply nth_new); (first | assumption | (simp; done) | (simp; omega) | (simp [setN_length]; done) | (simp [setN_length]; omega))) | with_reducible apply nth_app)); done))))
        | ((with_reducible apply NeedIter.mk); · ((first | assumption | ((repeat (first | assumption | with_reducible apply nth_setN_same | ((with_reducible refine nth_setN_ne ?_ ?_); (first | assumption | omega | (simp; omega))) | ((with_reducible apply nth_new); (first | assumption | (simp; done) | (simp; omega) | (simp [setN_length]; done) | (simp [setN_length]; omega))) | with_reducible apply nth_app)); done))))
        | ((with_reducible apply NeedLen.mk); · (first | assumption | rfl))
        | ((with_reducible apply NeedRow.mk); · (first | rfl | (first | assumption | ((repeat (first | assumption | with_reducible apply nth_setN_same | ((with_reducible refine nth_setN_ne ?_ ?_); (first | assumption | omega | (simp; omega))) | ((with_reducible apply nth_new); (first | assumption | (simp; done) | (simp; omega) | (simp [setN_length]; done) | (simp [setN_length]; omega))) | with_reducible apply nth_app)); done))))
        | ((with_reducible apply DrawG.mk (List.replicate 60 false)); · (decide +kernel))
        | with_reducible refine NewP.mk (fun id hid => ?_)
        | with_reducible refine NilP.mk (fun e he => ?_)
        | with_reducible exact trivial
        | with_reducible exact And.intro rfl rfl
        | ((with_reducible apply PreP.mk); · (first | with_reducible rfl | assumption | omega | (constructor <;> omega)))
        | refine Exists.intro _ (PreP.mk (bytesOf_lst _) ?_)
        | refine PreP.mk (lenD_lst _) ?_
        | with_reducible refine PreP.mk ?_ ?_
        | with_reducible refine BothP.mk ?_ ?_
        | ((with_reducible apply AncOr.anc); · (decide +kernel))
        | with_reducible refine AncOr.go ?_)
    refine CallOK.go (a19 hd8 [109]) (fun r H9 hr => ?_)
    obtain ⟨rfl, rfl⟩ := hr
    have hQ4 : readM ⟨st + 1 + 1, 0, 1000, [⟨[109], y, y.length⟩]⟩ [109] = .tup [.p (.lst (y.map byteRow)), i64 0] := rfl
    rw [hQ4]
    have hly : ((y.map byteRow).length : Int) = y.length := by simp
    have hc2 : (c.toNat : Int) = 255 → y.length = a.length := fun e => hy3 (by apply UInt8.toNat_inj.1; have : (255 : UInt8).toNat = 255 := rfl; omega)
    have hps : (0 : Int) ≤ 0 ∧ (0 : Int) ≤ ((y.map byteRow).length : Int) ∧ ((y.map byteRow).length : Int) ≤ ((a.map byteRow).length : Int) ∧ ∀ r ∈ a.map byteRow, r.length = 1 := ⟨by omega, by omega, by omega, fun r hr => by obtain ⟨x, _, rfl⟩ := List.mem_map.1 hr; rfl⟩
    repeat' (first
        | ((with_reducible apply Onw.mk); conv => whnf)
        | with_reducible apply Br.tt
        | with_reducible apply Br.ff
        | with_reducible apply Br.no
        | ((with_reducible apply Br.t); · (assumption))
        | ((with_reducible apply Br.f); · (assumption))
        | ((with_reducible apply Br.dt); · (first | assumption | omega))
        | ((with_reducible apply Br.df); · (first | assumption | omega))
        | with_reducible refine Br.dec (fun hc => ?_) (fun hc => ?_)
        | with_reducible refine Br.mk (fun hc => ?_) (fun hc => ?_)
        | (refine PreP.mk hps ?_)
        | ((with_reducible apply NeedRows.mk); · ((first | assumption | ((repeat (first | assumption | with_reducible apply nth_setN_same | ((with_reducible refine nth_setN_ne ?_ ?_); (first | assumption | omega | (simp; omega))) | ((with_reducible apply nth_new); (first | assumption | (simp; done) | (simp; omega) | (simp [setN_length]; done) | (simp [setN_length]; omega))) | with_reducible apply nth_app)); done))))
        | ((with_reducible apply NeedMap.mk); · ((first | assumption | ((repeat (first | assumption | with_reducible apply nth_setN_same | ((with_reducible refine nth_setN_ne ?_ ?_); (first | assumption | omega | (simp; omega))) | ((with_reducible apply nth_new); (first | assumption | (simp; done) | (simp; omega) | (simp [setN_length]; done) | (simp [setN_length]; omega))) | with_reducible apply nth_app)); done))))
        | ((with_reducible apply NeedIter.mk); · ((first | assumption | ((repeat (first | assumption | with_reducible apply nth_setN_same | ((with_reducible refine nth_setN_ne ?_ ?_); (first | assumption | omega | (simp; omega))) | ((with_reducible apply nth_new); (first | assumption | (simp; done) | (simp; omega) | (simp [setN_length]; done) | (simp [setN_length]; omega))) | with_reducible apply nth_app)); done))))
        | ((with_reducible apply NeedLen.mk); · (first | assumption | rfl))
        | ((with_reducible apply NeedRow.mk); · (first | rfl | (first | assumption | ((repeat (first | assumption | with_reducible apply nth_setN_same | ((with_reducible refine nth_setN_ne ?_ ?_); (first | assumption | omega | (simp; omega))) | ((with_reducible apply nth_new); (first | assumption | (simp; done) | (simp; omega) | (simp [setN_length]; done) | (simp [setN_length]; omega))) | with_reducible apply nth_app)); done))))
        | ((with_reducible apply DrawG.mk (List.replicate 60 false)); · (decide +kernel))
        | with_reducible refine NewP.mk (fun id hid => ?_)
        | with_reducible refine NilP.mk (fun e he => ?_)
        | with_reducible exact trivial
        | with_reducible exact And.intro rfl rfl
        | ((with_reducible apply PreP.mk); · (first | with_reducible rfl | assumption | omega | (constructor <;> omega)))
        | refine Exists.intro _ (PreP.mk (bytesOf_lst _) ?_)
        | refine PreP.mk (lenD_lst _) ?_
        | with_reducible refine PreP.mk ?_ ?_
        | with_reducible refine BothP.mk ?_ ?_
        | ((with_reducible apply AncOr.anc); · (decide +kernel))
        | with_reducible refine AncOr.go ?_)
    have hsl : List.drop (Int.toNat 0) (List.take (((y.map byteRow).length : Int)).toNat (a.map byteRow)) = y.map byteRow := by
      have h1 : (((y.map byteRow).length : Int)).toNat = y.length := by simp
      rw [h1, ← List.map_take, ← hy]
      rfl
    rw [hsl]
    repeat' (first
        | ((with_reducible apply Onw.mk); conv => whnf)
        | with_reducible apply Br.tt
        | with_reducible apply Br.ff
        | with_reducible apply Br.no
        | ((with_reducible apply Br.t); · (assumption))
        | ((with_reducible apply Br.f); · (assumption))
        | ((with_reducible apply Br.dt); · (first | assumption | omega))
        | ((with_reducible apply Br.df); · (first | assumption | omega))
        | with_reducible refine Br.dec (fun hc => ?_) (fun hc => ?_)
        | with_reducible refine Br.mk (fun hc => ?_) (fun hc => ?_)
        | ((with_reducible apply NeedRows.mk); · ((first | assumption | ((repeat (first | assumption | with_reducible apply nth_setN_same | ((with_reducible refine nth_setN_ne ?_ ?_); (first | assumption | omega | (simp; omega))) | ((with_reducible apply nth_new); (first | assumption | (simp; done) | (simp; omega) | (simp [setN_length]; done) | (simp [setN_length]; omega))) | with_reducible apply nth_app)); done))))
        | ((with_reducible apply NeedMap.mk); · ((first | assumption | ((repeat (first | assumption | with_reducible apply nth_setN_same | ((with_reducible refine nth_setN_ne ?_ ?_); (first | assumption | omega | (simp; omega))) | ((with_reducible apply nth_new); (first | assumption | (simp; done) | (simp; omega) | (simp [setN_length]; done) | (simp [setN_length]; omega))) | with_reducible apply nth_app)); done))))
        | ((with_reducible apply NeedIter.mk); · ((first | assumption | ((repeat (first | assumption | with_reducible apply nth_setN_same | ((with_reducible refine nth_setN_ne ?_ ?_); (first | assumption | omega | (simp; omega))) | ((with_reducible apply nth_new); (first | assumption | (simp; done) | (simp; omega) | (simp [setN_length]; done) | (simp [setN_length]; omega))) | with_reducible apply nth_app)); done))))
        | ((with_reducible apply NeedLen.mk); · (first | assumption | rfl))
        | ((with_reducible apply NeedRow.mk); · (first | rfl | (first | assumption | ((repeat (first | assumption | with_reducible apply nth_setN_same | ((with_reducible refine nth_setN_ne ?_ ?_); (first | assumption | omega | (simp; omega))) | ((with_reducible apply nth_new); (first | assumption | (simp; done) | (simp; omega) | (simp [setN_length]; done) | (simp [setN_length]; omega))) | with_reducible apply nth_app)); done))))
        | ((with_reducible apply DrawG.mk (List.replicate 60 false)); · (decide +kernel))
        | with_reducible refine NewP.mk (fun id hid => ?_)
        | with_reducible refine NilP.mk (fun e he => ?_)
        | with_reducible exact trivial
        | with_reducible exact And.intro rfl rfl
        | ((with_reducible apply PreP.mk); · (first | with_reducible rfl | assumption | omega | (constructor <;> omega)))
        | refine Exists.intro _ (PreP.mk (bytesOf_lst _) ?_)
        | refine PreP.mk (lenD_lst _) ?_
        | with_reducible refine PreP.mk ?_ ?_
        | with_reducible refine BothP.mk ?_ ?_
        | ((with_reducible apply AncOr.anc); · (decide +kernel))
        | with_reducible refine AncOr.go ?_)
  all_goals first
    | exact absurd rfl hc
    | (have e := hy4 (by assumption)
       have e2 : decide (((y.map byteRow).length : Int) = ((a.map byteRow).length : Int)) = true := decide_eq_true (by omega)
       rw [e2]; rfl)
    | rfl
end Go.Proofs.Ytanknokhbfijdaa
