/- What functions of the disk, and of the laws over it, do. Conditions: those that each theorem names. -/
import Derived.Test.YtanknokhbfijdaaD56
set_option linter.unusedVariables false
set_option linter.unusedSimpArgs false
namespace Go.Proofs.Ytanknokhbfijdaa
open Go.Ab
set_option maxRecDepth 100000
set_option maxHeartbeats 1000000
attribute [local irreducible] Run CallOK DetCall Br PreP BothP AncOr Onw NeedRows NeedMap NeedRow NeedLen NilP NeedIter RoundP EntryP EqP OptP NewP NewSlice NewMade AppTo DrawG anc drawB
theorem bytes_drop (b : List UInt8) (n : Nat) : List.drop (n : Int).toNat (List.take (((b.map byteRow).length : Int)).toNat (b.map byteRow)) = (b.drop n).map byteRow := by
  rw [Int.toNat_natCast, Int.toNat_natCast, List.take_length, List.map_drop]
theorem bytes_take (b : List UInt8) (n : Nat) : List.drop (Int.toNat 0) (List.take (n : Int).toNat (b.map byteRow)) = (b.take n).map byteRow := by simp [List.map_take]
theorem s37 (H : Heap) (b : List UInt8) (hb : b.length ≤ 1000000) : Ab.Spec Try.prog 37 [.p (.lst (b.map byteRow))] H (fun r H' => ∃ id, OwnL H H' id ((scanL b).1.map strRow) ∧ r = .tup (.own id 1 0 ((scanL b).1.map strRow).length none :: [i64 (b.length - (scanL b).2.length : Nat)])) := by
  have hlb : ((b.map byteRow).length : Int) = b.length := by simp
  refine Ab.Spec.walk hm Try.func37 (by kernel_rfl) 100 ?_
  repeat' (first
    | ((with_reducible apply Onw.mk); conv => whnf)
    | (with_reducible first | apply Br.tt | apply Br.ff | apply Br.no)
    | ((with_reducible apply Br.t); · assumption)
    | ((with_reducible apply Br.f); · assumption)
    | ((with_reducible apply Br.dt); · exact ab_known)
    | ((with_reducible apply Br.df); · exact ab_known)
    | (with_reducible first | refine Br.dec (fun hc => ?_) (fun hc => ?_) | refine Br.mk (fun hc => ?_) (fun hc => ?_))
    | ((with_reducible first | apply NeedRows.mk | apply NeedMap.mk | apply NeedIter.mk); · exact ab_look)
    | ((with_reducible apply NeedLen.mk); · first | assumption | rfl)
    | ((with_reducible apply NeedRow.mk); · exact ab_lookR)
    | ((with_reducible apply DrawG.mk (List.replicate 60 false)); · decide +kernel)
    | (with_reducible first | refine NewP.mk (fun id hid => ?_) | refine NilP.mk (fun e he => ?_))
    | (with_reducible first | exact trivial | exact And.intro rfl rfl)
    | ((with_reducible apply PreP.mk); · exact ab_asked)
    | refine Exists.intro _ (PreP.mk (bytesOf_lst _) ?_)
    | refine PreP.mk (lenD_lst _) ?_
    | (with_reducible first | refine PreP.mk ?_ ?_ | refine BothP.mk ?_ ?_)
    | ((with_reducible apply AncOr.anc); · decide +kernel)
    | with_reducible refine AncOr.go ?_)
  refine Run.virt 4 1 rfl ?_
  refine Run.keep [(0, .p (.lst (b.map byteRow))), (4, .own H.length 1 0 (0 : Nat) none), (5, i64 (0 : Nat))] ⟨rfl, rfl, rfl, trivial⟩ ?_
  refine Run.rounds (fun (at_ : Nat) T H2 => ∃ (out : List (List UInt8)) (id : Nat), T = [(0, .p (.lst (b.map byteRow))), (4, .own id 1 0 out.length none), (5, i64 (at_ : Nat))] ∧ OwnL H H2 id (out.map strRow) ∧
    scanL b = (out ++ (scanL (b.drop at_)).1, (scanL (b.drop at_)).2) ∧ at_ ≤ b.length ∧ out.length * 8 ≤ at_) (fun at_ => b.length - at_) ?_ (x := 0) ⟨[], _, rfl, OwnL.start H, by simp, Nat.zero_le _, by simp⟩
  rintro at_ T H2 ⟨out, id, rfl, hO, hsc, hle, hle2⟩ ih
  have hrow := hO.2.2
  have hone : ∀ r ∈ b.map byteRow, r.length = 1 := byteRow_one
  generalize hrest : b.drop at_ = rest at hsc
  have hrl : rest.length = b.length - at_ := by rw [← hrest, List.length_drop]
  have hend : ∀ H3, H3 = H2 → nextL rest = none → ∃ id', OwnL H H3 id' ((scanL b).1.map strRow) ∧ mkRes [D.own id 1 0 out.length none, i64 (at_ : Nat)] = .tup (.own id' 1 0 ((scanL b).1.map strRow).length none :: [i64 (b.length - (scanL b).2.length : Nat)]) := by
    rintro H3 rfl hn
    rw [scanL_none hn] at hsc
    refine ⟨id, by rw [hsc]; simpa using hO, ?_⟩
    rw [hsc]
    simp only [mkRes, List.append_nil, List.length_map]
    rw [hrl, show b.length - (b.length - at_) = at_ by omega]
  refine Run.walk hm Try.func37 100 ?_
  repeat' (first
    | ((with_reducible apply Onw.mk); conv => whnf)
    | (with_reducible first | apply Br.tt | apply Br.ff | apply Br.no)
    | ((with_reducible apply Br.t); · assumption)
    | ((with_reducible apply Br.f); · assumption)
    | ((with_reducible apply Br.dt); · exact ab_known)
    | ((with_reducible apply Br.df); · exact ab_known)
    | (with_reducible first | refine Br.dec (fun hc => ?_) (fun hc => ?_) | refine Br.mk (fun hc => ?_) (fun hc => ?_))
    | ((with_reducible first | apply NeedRows.mk | apply NeedMap.mk | apply NeedIter.mk); · exact ab_look)
    | ((with_reducible apply NeedLen.mk); · first | assumption | rfl)
    | ((with_reducible apply NeedRow.mk); · exact ab_lookR)
    | ((with_reducible apply DrawG.mk (List.replicate 60 false)); · decide +kernel)
    | (with_reducible first | refine NewP.mk (fun id hid => ?_) | refine NilP.mk (fun e he => ?_))
    | (with_reducible first | exact trivial | exact And.intro rfl rfl)
    | ((with_reducible apply PreP.mk); · exact ab_asked)
    | refine Exists.intro _ (PreP.mk (bytesOf_lst _) ?_)
    | refine PreP.mk (lenD_lst _) ?_
    | (with_reducible first | refine PreP.mk ?_ ?_ | refine BothP.mk ?_ ?_)
    | ((with_reducible apply AncOr.anc); · decide +kernel)
    | with_reducible refine AncOr.go ?_)
  · exact ⟨by omega, by omega, by omega, hone⟩
  rw [bytes_drop, hrest]
  refine CallOK.go (CallOK.of_spec (s62 _ rest (by omega))) (fun r H3 hr => ?_)
  obtain ⟨rfl, rfl⟩ := hr
  unfold getR2
  rcases Nat.lt_or_ge rest.length 4 with h4 | h4
  · rw [if_pos h4]
    repeat' (first
      | ((with_reducible apply Onw.mk); conv => whnf)
      | (with_reducible first | apply Br.tt | apply Br.ff | apply Br.no)
      | ((with_reducible apply Br.t); · assumption)
      | ((with_reducible apply Br.f); · assumption)
      | ((with_reducible apply Br.dt); · exact ab_known)
      | ((with_reducible apply Br.df); · exact ab_known)
      | (with_reducible first | refine Br.dec (fun hc => ?_) (fun hc => ?_) | refine Br.mk (fun hc => ?_) (fun hc => ?_))
      | ((with_reducible first | apply NeedRows.mk | apply NeedMap.mk | apply NeedIter.mk); · exact ab_look)
      | ((with_reducible apply NeedLen.mk); · first | assumption | rfl)
      | ((with_reducible apply NeedRow.mk); · exact ab_lookR)
      | ((with_reducible apply DrawG.mk (List.replicate 60 false)); · decide +kernel)
      | (with_reducible first | refine NewP.mk (fun id hid => ?_) | refine NilP.mk (fun e he => ?_))
      | (with_reducible first | exact trivial | exact And.intro rfl rfl)
      | ((with_reducible apply PreP.mk); · exact ab_asked)
      | refine Exists.intro _ (PreP.mk (bytesOf_lst _) ?_)
      | refine PreP.mk (lenD_lst _) ?_
      | (with_reducible first | refine PreP.mk ?_ ?_ | refine BothP.mk ?_ ?_)
      | ((with_reducible apply AncOr.anc); · decide +kernel)
      | with_reducible refine AncOr.go ?_)
    exact hend _ rfl (by unfold nextL; rw [if_pos (by omega)])
  rw [if_neg (by omega)]
  have hv4 := valN_lt (rest.take 4)
  have hl4 : (rest.take 4).length = 4 := by rw [List.length_take]; omega
  rw [hl4] at hv4
  have hl1 : (rest.drop 4).length = rest.length - 4 := List.length_drop
  have hdd : (rest.drop 4).drop 4 = rest.drop 8 := List.drop_drop
  rcases Nat.lt_or_ge 4000 (valN (rest.take 4)) with hbig | hbig
  · repeat' (first
    | ((with_reducible apply Onw.mk); conv => whnf)
    | (with_reducible first | apply Br.tt | apply Br.ff | apply Br.no)
    | ((with_reducible apply Br.t); · assumption)
    | ((with_reducible apply Br.f); · assumption)
    | ((with_reducible apply Br.dt); · exact ab_known)
    | ((with_reducible apply Br.df); · exact ab_known)
    | (with_reducible first | refine Br.dec (fun hc => ?_) (fun hc => ?_) | refine Br.mk (fun hc => ?_) (fun hc => ?_))
    | ((with_reducible first | apply NeedRows.mk | apply NeedMap.mk | apply NeedIter.mk); · exact ab_look)
    | ((with_reducible apply NeedLen.mk); · first | assumption | rfl)
    | ((with_reducible apply NeedRow.mk); · exact ab_lookR)
    | ((with_reducible apply DrawG.mk (List.replicate 60 false)); · decide +kernel)
    | (with_reducible first | refine NewP.mk (fun id hid => ?_) | refine NilP.mk (fun e he => ?_))
    | (with_reducible first | exact trivial | exact And.intro rfl rfl)
    | ((with_reducible apply PreP.mk); · exact ab_asked)
    | refine Exists.intro _ (PreP.mk (bytesOf_lst _) ?_)
    | refine PreP.mk (lenD_lst _) ?_
    | (with_reducible first | refine PreP.mk ?_ ?_ | refine BothP.mk ?_ ?_)
    | ((with_reducible apply AncOr.anc); · decide +kernel)
    | with_reducible refine AncOr.go ?_)
    exact hend _ rfl (by unfold nextL; split; rfl; rw [if_pos (.inl hbig)])
  repeat' (first
    | ((with_reducible apply Onw.mk); conv => whnf)
    | (with_reducible first | apply Br.tt | apply Br.ff | apply Br.no)
    | ((with_reducible apply Br.t); · assumption)
    | ((with_reducible apply Br.f); · assumption)
    | ((with_reducible apply Br.dt); · exact ab_known)
    | ((with_reducible apply Br.df); · exact ab_known)
    | (with_reducible first | refine Br.dec (fun hc => ?_) (fun hc => ?_) | refine Br.mk (fun hc => ?_) (fun hc => ?_))
    | ((with_reducible first | apply NeedRows.mk | apply NeedMap.mk | apply NeedIter.mk); · exact ab_look)
    | ((with_reducible apply NeedLen.mk); · first | assumption | rfl)
    | ((with_reducible apply NeedRow.mk); · exact ab_lookR)
    | ((with_reducible apply DrawG.mk (List.replicate 60 false)); · decide +kernel)
    | (with_reducible first | refine NewP.mk (fun id hid => ?_) | refine NilP.mk (fun e he => ?_))
    | (with_reducible first | exact trivial | exact And.intro rfl rfl)
    | ((with_reducible apply PreP.mk); · exact ab_asked)
    | refine Exists.intro _ (PreP.mk (bytesOf_lst _) ?_)
    | refine PreP.mk (lenD_lst _) ?_
    | (with_reducible first | refine PreP.mk ?_ ?_ | refine BothP.mk ?_ ?_)
    | ((with_reducible apply AncOr.anc); · decide +kernel)
    | with_reducible refine AncOr.go ?_)
  refine CallOK.go (CallOK.of_spec (s62 _ (rest.drop 4) (by omega))) (fun r H4 hr => ?_)
  obtain ⟨rfl, rfl⟩ := hr
  unfold getR2
  rcases Nat.lt_or_ge (rest.drop 4).length 4 with h8 | h8
  · rw [if_pos h8]
    repeat' (first
      | ((with_reducible apply Onw.mk); conv => whnf)
      | (with_reducible first | apply Br.tt | apply Br.ff | apply Br.no)
      | ((with_reducible apply Br.t); · assumption)
      | ((with_reducible apply Br.f); · assumption)
      | ((with_reducible apply Br.dt); · exact ab_known)
      | ((with_reducible apply Br.df); · exact ab_known)
      | (with_reducible first | refine Br.dec (fun hc => ?_) (fun hc => ?_) | refine Br.mk (fun hc => ?_) (fun hc => ?_))
      | ((with_reducible first | apply NeedRows.mk | apply NeedMap.mk | apply NeedIter.mk); · exact ab_look)
      | ((with_reducible apply NeedLen.mk); · first | assumption | rfl)
      | ((with_reducible apply NeedRow.mk); · exact ab_lookR)
      | ((with_reducible apply DrawG.mk (List.replicate 60 false)); · decide +kernel)
      | (with_reducible first | refine NewP.mk (fun id hid => ?_) | refine NilP.mk (fun e he => ?_))
      | (with_reducible first | exact trivial | exact And.intro rfl rfl)
      | ((with_reducible apply PreP.mk); · exact ab_asked)
      | refine Exists.intro _ (PreP.mk (bytesOf_lst _) ?_)
      | refine PreP.mk (lenD_lst _) ?_
      | (with_reducible first | refine PreP.mk ?_ ?_ | refine BothP.mk ?_ ?_)
      | ((with_reducible apply AncOr.anc); · decide +kernel)
      | with_reducible refine AncOr.go ?_)
    exact hend _ rfl (by unfold nextL; rw [if_pos (by omega)])
  rw [if_neg (by omega), hdd]
  have hl2 : (rest.drop 8).length = rest.length - 8 := List.length_drop
  have hlm2 : (((rest.drop 8).map byteRow).length : Int) = (rest.drop 8).length := by simp
  have hw2 : IntKind.u64.wrap (((rest.drop 8).map byteRow).length : Int) = (rest.drop 8).length := by rw [hlm2]; exact wrapU64 (by omega)
  rcases Nat.lt_or_ge (rest.drop 8).length (valN (rest.take 4)) with hsh | hsh
  · have hlt : IntKind.u64.wrap (((rest.drop 8).map byteRow).length : Int) < (valN (rest.take 4) : Int) := by rw [hw2]; omega
    repeat' (first
      | ((with_reducible apply Onw.mk); conv => whnf)
      | (with_reducible first | apply Br.tt | apply Br.ff | apply Br.no)
      | ((with_reducible apply Br.t); · assumption)
      | ((with_reducible apply Br.f); · assumption)
      | ((with_reducible apply Br.dt); · exact ab_known)
      | ((with_reducible apply Br.df); · exact ab_known)
      | (with_reducible first | refine Br.dec (fun hc => ?_) (fun hc => ?_) | refine Br.mk (fun hc => ?_) (fun hc => ?_))
      | ((with_reducible first | apply NeedRows.mk | apply NeedMap.mk | apply NeedIter.mk); · exact ab_look)
      | ((with_reducible apply NeedLen.mk); · first | assumption | rfl)
      | ((with_reducible apply NeedRow.mk); · exact ab_lookR)
      | ((with_reducible apply DrawG.mk (List.replicate 60 false)); · decide +kernel)
      | (with_reducible first | refine NewP.mk (fun id hid => ?_) | refine NilP.mk (fun e he => ?_))
      | (with_reducible first | exact trivial | exact And.intro rfl rfl)
      | ((with_reducible apply PreP.mk); · exact ab_asked)
      | refine Exists.intro _ (PreP.mk (bytesOf_lst _) ?_)
      | refine PreP.mk (lenD_lst _) ?_
      | (with_reducible first | refine PreP.mk ?_ ?_ | refine BothP.mk ?_ ?_)
      | ((with_reducible apply AncOr.anc); · decide +kernel)
      | with_reducible refine AncOr.go ?_)
    exact hend _ rfl (by unfold nextL; split; rfl; rw [if_pos (.inr (.inl hsh))])
  have hlt : ¬ IntKind.u64.wrap (((rest.drop 8).map byteRow).length : Int) < (valN (rest.take 4) : Int) := by rw [hw2]; omega
  have hsl : (0 : Int) ≤ 0 ∧ (0 : Int) ≤ (valN (rest.take 4) : Int) ∧ (valN (rest.take 4) : Int) ≤ (((rest.drop 8).map byteRow).length : Int) ∧ ∀ r ∈ (rest.drop 8).map byteRow, r.length = 1 := ⟨by omega, by omega, by omega, byteRow_one⟩
  repeat' (first
    | ((with_reducible apply Onw.mk); conv => whnf)
    | (with_reducible first | apply Br.tt | apply Br.ff | apply Br.no)
    | ((with_reducible apply Br.t); · assumption)
    | ((with_reducible apply Br.f); · assumption)
    | ((with_reducible apply Br.dt); · exact ab_known)
    | ((with_reducible apply Br.df); · exact ab_known)
    | (with_reducible first | refine Br.dec (fun hc => ?_) (fun hc => ?_) | refine Br.mk (fun hc => ?_) (fun hc => ?_))
    | (refine PreP.mk hsl ?_)
    | ((with_reducible first | apply NeedRows.mk | apply NeedMap.mk | apply NeedIter.mk); · exact ab_look)
    | ((with_reducible apply NeedLen.mk); · first | assumption | rfl)
    | ((with_reducible apply NeedRow.mk); · exact ab_lookR)
    | ((with_reducible apply DrawG.mk (List.replicate 60 false)); · decide +kernel)
    | (with_reducible first | refine NewP.mk (fun id hid => ?_) | refine NilP.mk (fun e he => ?_))
    | (with_reducible first | exact trivial | exact And.intro rfl rfl)
    | ((with_reducible apply PreP.mk); · exact ab_asked)
    | refine Exists.intro _ (PreP.mk (bytesOf_lst _) ?_)
    | refine PreP.mk (lenD_lst _) ?_
    | (with_reducible first | refine PreP.mk ?_ ?_ | refine BothP.mk ?_ ?_)
    | ((with_reducible apply AncOr.anc); · decide +kernel)
    | with_reducible refine AncOr.go ?_)
  rw [bytes_take]
  refine CallOK.go (CallOK.of_spec (s63 _ ((rest.drop 8).take (valN (rest.take 4))) (by rw [List.length_take]; omega))) (fun r H5 hr => ?_)
  obtain ⟨rfl, rfl⟩ := hr
  have hwS : IntKind.u64.wrap (sumS ((rest.drop 8).take (valN (rest.take 4))) : Int) = (sumS ((rest.drop 8).take (valN (rest.take 4))) : Int) := wrapU64 (by have := sumS_lt ((rest.drop 8).take (valN (rest.take 4))); omega)
  rcases Classical.em (sumS ((rest.drop 8).take (valN (rest.take 4))) = valN ((rest.drop 4).take 4)) with hsum | hsum
  · have hse : IntKind.u64.wrap (sumS ((rest.drop 8).take (valN (rest.take 4))) : Int) = (valN ((rest.drop 4).take 4) : Int) := by rw [hwS, hsum]
    repeat' (first
      | ((with_reducible apply Onw.mk); conv => whnf)
      | (with_reducible first | apply Br.tt | apply Br.ff | apply Br.no)
      | ((with_reducible apply Br.t); · assumption)
      | ((with_reducible apply Br.f); · assumption)
      | ((with_reducible apply Br.dt); · exact ab_known)
      | ((with_reducible apply Br.df); · exact ab_known)
      | (with_reducible first | refine Br.dec (fun hc => ?_) (fun hc => ?_) | refine Br.mk (fun hc => ?_) (fun hc => ?_))
      | (refine PreP.mk hsl ?_)
      | ((with_reducible first | apply NeedRows.mk | apply NeedMap.mk | apply NeedIter.mk); · exact ab_look)
      | ((with_reducible apply NeedLen.mk); · first | assumption | rfl)
      | ((with_reducible apply NeedRow.mk); · exact ab_lookR)
      | ((with_reducible apply DrawG.mk (List.replicate 60 false)); · decide +kernel)
      | (with_reducible first | refine NewP.mk (fun id hid => ?_) | refine NilP.mk (fun e he => ?_))
      | (with_reducible first | exact trivial | exact And.intro rfl rfl)
      | ((with_reducible apply PreP.mk); · exact ab_asked)
      | refine Exists.intro _ (PreP.mk (bytesOf_lst _) ?_)
      | refine PreP.mk (lenD_lst _) ?_
      | (with_reducible first | refine PreP.mk ?_ ?_ | refine BothP.mk ?_ ?_)
      | ((with_reducible apply AncOr.anc); · decide +kernel)
      | with_reducible refine AncOr.go ?_)
    rw [bytes_take]
    have hnx : nextL rest = some ((rest.drop 8).take (valN (rest.take 4)), (rest.drop 8).drop (valN (rest.take 4))) := by
      unfold nextL
      rw [if_neg (by omega), if_neg]
      rintro (q | q | q)
      · omega
      · omega
      · exact q hsum
    rw [scanL_some hnx] at hsc
    generalize hrec : (rest.drop 8).take (valN (rest.take 4)) = rec at hsc
    have hrecl : rec.length = valN (rest.take 4) := by rw [← hrec, List.length_take]; omega
    repeat' (first
      | ((with_reducible apply Onw.mk); conv => whnf)
      | (with_reducible first | apply Br.tt | apply Br.ff | apply Br.no)
      | ((with_reducible apply Br.t); · assumption)
      | ((with_reducible apply Br.f); · assumption)
      | ((with_reducible apply Br.dt); · exact ab_known)
      | ((with_reducible apply Br.df); · exact ab_known)
      | (with_reducible first | refine Br.dec (fun hc => ?_) (fun hc => ?_) | refine Br.mk (fun hc => ?_) (fun hc => ?_))
      | ((with_reducible first | apply NeedRows.mk | apply NeedMap.mk | apply NeedIter.mk); · exact ab_look)
      | ((with_reducible apply NeedLen.mk); · first | assumption | rfl)
      | ((with_reducible apply NeedRow.mk); · exact ab_lookR)
      | ((with_reducible apply DrawG.mk (List.replicate 60 false)); · decide +kernel)
      | (with_reducible first | refine NewP.mk (fun id hid => ?_) | refine NilP.mk (fun e he => ?_))
      | (with_reducible first | exact trivial | exact And.intro rfl rfl)
      | ((with_reducible apply PreP.mk); · exact ab_asked)
      | refine Exists.intro _ (PreP.mk (bytesOf_lst _) ?_)
      | refine PreP.mk (lenD_lst _) ?_
      | (with_reducible first | refine PreP.mk ?_ ?_ | refine BothP.mk ?_ ?_)
      | ((with_reducible apply AncOr.anc); · decide +kernel)
      | with_reducible refine AncOr.go ?_)
    refine NewSlice.lst [strRow rec] rfl rfl (fun q hq => by simp at hq; subst hq; rfl) ?_
    repeat' (first
      | ((with_reducible apply Onw.mk); conv => whnf)
      | (with_reducible first | apply Br.tt | apply Br.ff | apply Br.no)
      | ((with_reducible apply Br.t); · assumption)
      | ((with_reducible apply Br.f); · assumption)
      | ((with_reducible apply Br.dt); · exact ab_known)
      | ((with_reducible apply Br.df); · exact ab_known)
      | (with_reducible first | refine Br.dec (fun hc => ?_) (fun hc => ?_) | refine Br.mk (fun hc => ?_) (fun hc => ?_))
      | ((with_reducible first | apply NeedRows.mk | apply NeedMap.mk | apply NeedIter.mk); · exact ab_look)
      | ((with_reducible apply NeedLen.mk); · first | assumption | rfl)
      | ((with_reducible apply NeedRow.mk); · exact ab_lookR)
      | ((with_reducible apply DrawG.mk (List.replicate 60 false)); · decide +kernel)
      | (with_reducible first | refine NewP.mk (fun id hid => ?_) | refine NilP.mk (fun e he => ?_))
      | (with_reducible first | exact trivial | exact And.intro rfl rfl)
      | ((with_reducible apply PreP.mk); · exact ab_asked)
      | refine Exists.intro _ (PreP.mk (bytesOf_lst _) ?_)
      | refine PreP.mk (lenD_lst _) ?_
      | (with_reducible first | refine PreP.mk ?_ ?_ | refine BothP.mk ?_ ?_)
      | ((with_reducible apply AncOr.anc); · decide +kernel)
      | with_reducible refine AncOr.go ?_)
    · exact rows_pre out.length (out.map strRow) [strRow rec] (fun q hq => by simp at hq; subst hq; exact ⟨rfl, fun p hp => by simp [strRow] at hp; subst hp; rfl⟩) 16 (by unfold maxRoom; simp; omega) (by unfold maxS; simp; omega) (by simp)
    refine AppTo.new (fun id2 hid2 => ?_)
    repeat' (first
      | ((with_reducible apply Onw.mk); conv => whnf)
      | (with_reducible first | apply Br.tt | apply Br.ff | apply Br.no)
      | ((with_reducible apply Br.t); · assumption)
      | ((with_reducible apply Br.f); · assumption)
      | ((with_reducible apply Br.dt); · exact ab_known)
      | ((with_reducible apply Br.df); · exact ab_known)
      | (with_reducible first | refine Br.dec (fun hc => ?_) (fun hc => ?_) | refine Br.mk (fun hc => ?_) (fun hc => ?_))
      | ((with_reducible first | apply NeedRows.mk | apply NeedMap.mk | apply NeedIter.mk); · exact ab_look)
      | ((with_reducible apply NeedLen.mk); · first | assumption | rfl)
      | ((with_reducible apply NeedRow.mk); · exact ab_lookR)
      | ((with_reducible apply DrawG.mk (List.replicate 60 false)); · decide +kernel)
      | (with_reducible first | refine NewP.mk (fun id hid => ?_) | refine NilP.mk (fun e he => ?_))
      | (with_reducible first | exact trivial | exact And.intro rfl rfl)
      | ((with_reducible apply PreP.mk); · exact ab_asked)
      | refine Exists.intro _ (PreP.mk (bytesOf_lst _) ?_)
      | refine PreP.mk (lenD_lst _) ?_
      | (with_reducible first | refine PreP.mk ?_ ?_ | refine BothP.mk ?_ ?_)
      | ((with_reducible apply AncOr.anc); · decide +kernel)
      | with_reducible refine AncOr.go ?_)
    have hdr : b.drop (at_ + 8 + valN (rest.take 4)) = (rest.drop 8).drop (valN (rest.take 4)) := by
      rw [← hrest, List.drop_drop, List.drop_drop, Nat.add_assoc]
    refine Run.keep _ ?_ (ih (at_ + 8 + valN (rest.take 4)) _ _ (by omega) ⟨out ++ [rec], id2, rfl, ?_, ?_, by omega, by simp; omega⟩)
    · refine ⟨rfl, congrArg (fun n => some (D.own id2 1 0 n none)) (by simp), ?_, trivial⟩
      rw [wrap64 (n := (at_ : Int) + 8) (by omega) (by omega), wrap64 (n := ((valN (rest.take 4) : Nat) : Int)) (by omega) (by omega)]
      exact slot64 (by omega) (by omega) (by omega)
    · rw [List.map_append]
      refine hO.rows hid2 ?_
      rw [List.drop_zero, List.take_of_length_le (by rw [List.length_map, List.length_map]; exact Nat.le_refl _), List.map_append]
      rfl
    · rw [hsc, hdr]; simp
  · have hse : ¬ IntKind.u64.wrap (sumS ((rest.drop 8).take (valN (rest.take 4))) : Int) = (valN ((rest.drop 4).take 4) : Int) := by rw [hwS]; omega
    repeat' (first
      | ((with_reducible apply Onw.mk); conv => whnf)
      | (with_reducible first | apply Br.tt | apply Br.ff | apply Br.no)
      | ((with_reducible apply Br.t); · assumption)
      | ((with_reducible apply Br.f); · assumption)
      | ((with_reducible apply Br.dt); · exact ab_known)
      | ((with_reducible apply Br.df); · exact ab_known)
      | (with_reducible first | refine Br.dec (fun hc => ?_) (fun hc => ?_) | refine Br.mk (fun hc => ?_) (fun hc => ?_))
      | ((with_reducible first | apply NeedRows.mk | apply NeedMap.mk | apply NeedIter.mk); · exact ab_look)
      | ((with_reducible apply NeedLen.mk); · first | assumption | rfl)
      | ((with_reducible apply NeedRow.mk); · exact ab_lookR)
      | ((with_reducible apply DrawG.mk (List.replicate 60 false)); · decide +kernel)
      | (with_reducible first | refine NewP.mk (fun id hid => ?_) | refine NilP.mk (fun e he => ?_))
      | (with_reducible first | exact trivial | exact And.intro rfl rfl)
      | ((with_reducible apply PreP.mk); · exact ab_asked)
      | refine Exists.intro _ (PreP.mk (bytesOf_lst _) ?_)
      | refine PreP.mk (lenD_lst _) ?_
      | (with_reducible first | refine PreP.mk ?_ ?_ | refine BothP.mk ?_ ?_)
      | ((with_reducible apply AncOr.anc); · decide +kernel)
      | with_reducible refine AncOr.go ?_)
    exact hend _ rfl (by unfold nextL; split; rfl; rw [if_pos (.inr (.inr hsum))])
theorem c37 (H : Heap) (b : List UInt8) (hb : b.length ≤ 1000000) : CallOK Try.prog 37 [.p (.lst (b.map byteRow))] H (fun r H' => r = .tup [.p (.lst ((scanL b).1.map strRow)), i64 (b.length - (scanL b).2.length : Nat)] ∧ H' = H) :=
  CallOK.ownLT rfl (fun r hr => by obtain ⟨x, _, rfl⟩ := List.mem_map.1 hr; rfl) (CallOK.of_spec (s37 H b hb))
end Go.Proofs.Ytanknokhbfijdaa
