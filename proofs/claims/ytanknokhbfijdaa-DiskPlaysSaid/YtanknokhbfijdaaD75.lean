/- What functions of the disk, and of the laws over it, do. Conditions: those that each theorem names. -/
import Derived.Test.YtanknokhbfijdaaD74
set_option linter.unusedVariables false
set_option linter.unusedSimpArgs false
namespace Go.Proofs.Ytanknokhbfijdaa
open Go.Ab
set_option maxRecDepth 100000
set_option maxHeartbeats 1000000
attribute [local irreducible] Run CallOK DetCall Br PreP BothP AncOr Onw NeedRows NeedMap NeedRow NeedLen NilP NeedIter RoundP EntryP EqP OptP NewP NewSlice NewMade AppTo DrawG anc drawB
def dropHeap (H : Heap) (r : Nat) (fs : List RFl) (i : Nat) (f : RFl) (q s p : Int) (o : Bool) : Heap :=
  setN (H ++ [.rows [rowF f], .rows [rowF f], .gone, .rows ((fs.map rowF).take i ++ (fs.map rowF).drop (i + 1))]) r (rRow (H.length + 3) (fs.length - 1) q s p o)
theorem drop_heap {H : Heap} {r ida id id3 : Nat} {R a a' b b' c d : Ab.Obj} (hr : r < H.length) (h1 : ida = H.length) (h2 : id = H.length + 1) (h3 : id3 = H.length + 2) :
    setN (setN (setN (setN (H ++ [a] ++ [b]) id b' ++ [c]) id3 .gone ++ [d]) r R) ida a' = setN (H ++ [a', b', .gone, d]) r R := by
  rw [setN_last (l := H ++ [a]) (by rw [h2]; simp), setN_last (l := H ++ [a] ++ [b']) (by rw [h3]; simp)]
  have e : H ++ [a] ++ [b'] ++ [Ab.Obj.gone] ++ [d] = H ++ [a, b', .gone, d] := by simp
  rw [e, setN_app hr, setN_app hr, setN_eq, List.set_append_right _ _ (by rw [setN_length]; omega), setN_length, h1]
  simp
theorem s58 (H : Heap) (r fid : Nat) (fs : List RFl) (q s p : Int) (o : Bool) (i : Nat) (f : RFl) (hf : fs[i]? = some f) (h : nth H r = some (rRow fid fs.length q s p o)) (h2 : nth H fid = some (.rows (fs.map rowF))) (hne : r ≠ fid) (hl : fs.length ≤ 100000) :
    Ab.Spec Try.prog 58 [.ptr r 0 0, i64 i] H (fun res H' => res = .agg (rowF f) ∧ H' = dropHeap H r fs i f q s p o) := by
  unfold rRow at h
  have hil := (List.getElem?_eq_some_iff.1 hf).1
  have hnth := rowF_nth hf
  have hlr := nth_lt h
  have hlf := nth_lt h2
  have wi : IntKind.i64.wrap ((i : Int) + 1) = (i : Int) + 1 := wrap64 (by omega) (by omega)
  have hp0 : (0 : Int) ≤ (i : Int) ∧ (i : Int) < (fs.length : Int) := by omega
  have hp1 : (0 : Int) ≤ 0 ∧ (0 : Int) ≤ (i : Int) ∧ (i : Int) ≤ (fs.length : Int) := by omega
  have hp2 : (0 : Int) ≤ IntKind.i64.wrap ((i : Int) + 1) ∧ IntKind.i64.wrap ((i : Int) + 1) ≤ (fs.length : Int) ∧ (fs.length : Int) ≤ (fs.length : Int) := by omega
  have hones : ∀ q ∈ fs.map rowF, q.length = 3 ∧ ∀ d ∈ q, isOne d = true := fun q hq => by
    obtain ⟨g, _, rfl⟩ := List.mem_map.1 hq; exact ⟨rfl, fun d hd => by simp [rowF] at hd; rcases hd with rfl | rfl | rfl <;> rfl⟩
  refine Ab.Spec.walk hm Try.func58 (by kernel_rfl) 200 ?_
  repeat' (first
    | ((with_reducible apply Onw.mk); conv => whnf)
    | (with_reducible first | apply Br.tt | apply Br.ff | apply Br.no)
    | ((with_reducible apply Br.t); · assumption)
    | ((with_reducible apply Br.f); · assumption)
    | ((with_reducible apply Br.dt); · exact ab_known)
    | ((with_reducible apply Br.df); · exact ab_known)
    | (with_reducible first | refine Br.dec (fun hc => ?_) (fun hc => ?_) | refine Br.mk (fun hc => ?_) (fun hc => ?_))
    | (refine PreP.mk hp0 ?_)
    | (refine PreP.mk hp1 ?_)
    | (refine PreP.mk hp2 ?_)
    | ((with_reducible apply DrawG.mk [false, false, false, false, false, false, false, true, true, true, true, true, true, true, true, true, true, true, true]); · decide +kernel)
    | ((with_reducible apply DrawG.mk [false, false, false, false, false, false, false, true, false, false, false, false, false, false, false, true, false, false, true]); · decide +kernel)
    | ((with_reducible first | apply NeedRows.mk | apply NeedMap.mk | apply NeedIter.mk); · exact ab_look)
    | ((with_reducible apply NeedLen.mk); · first | assumption | rfl)
    | ((with_reducible apply NeedRow.mk); · exact ab_lookR)
    | ((with_reducible apply DrawG.mk (List.replicate 60 false)); · decide +kernel)
    | (with_reducible first | refine NewP.mk (fun id hid => ?_) | refine NilP.mk (fun e he => ?_))
    | (with_reducible first | exact trivial | exact And.intro rfl rfl)
    | ((with_reducible apply PreP.mk); · exact ab_asked)
    | refine Exists.intro _ (PreP.mk (bytesOf_lst _) ?_)
    | refine PreP.mk (lenD_lst _) ?_
    | (with_reducible first | refine PreP.mk ?_ ?_ | refine BothP.mk ?_ ?_)
    | ((with_reducible apply AncOr.anc); · decide +kernel)
    | with_reducible refine AncOr.go ?_)
  · show (i : Int).toNat - Int.toNat 0 = (List.take ((i : Int).toNat - Int.toNat 0) (List.drop (0 + Int.toNat 0) (fs.map rowF))).length
    simp; omega
  · refine ⟨?_, ?_, fun q hq => (hones q (List.mem_of_mem_drop (List.mem_of_mem_take hq))).1⟩
    · show (List.take ((i : Int).toNat - Int.toNat 0) (List.drop (0 + Int.toNat 0) (fs.map rowF))).length * 48 ≤ maxRoom
      unfold maxRoom; simp; omega
    · unfold maxS; simp; omega
  refine NewSlice.own (fun id3 hid3 => ?_)
  have e0 : List.take ((i : Int).toNat - Int.toNat 0) (List.drop (0 + Int.toNat 0) (fs.map rowF)) = (fs.map rowF).take i := by simp
  rw [e0]
  have hl3 : id3 = H.length + 2 := by rw [hid3, setN_length]; simp
  have hl2 : id = H.length + 1 := by rw [hid]; simp
  have hb1 : id3 ≠ r := by omega
  have hb2 : r ≠ id3 := by omega
  have hb3 : id3 ≠ fid := by omega
  have hb4 : fid ≠ id3 := by omega
  have hb5 : id ≠ fid := by omega
  have hb6 : id ≠ r := by omega
  repeat' (first
    | ((with_reducible apply Onw.mk); conv => whnf)
    | (with_reducible first | apply Br.tt | apply Br.ff | apply Br.no)
    | ((with_reducible apply Br.t); · assumption)
    | ((with_reducible apply Br.f); · assumption)
    | ((with_reducible apply Br.dt); · exact ab_known)
    | ((with_reducible apply Br.df); · exact ab_known)
    | (with_reducible first | refine Br.dec (fun hc => ?_) (fun hc => ?_) | refine Br.mk (fun hc => ?_) (fun hc => ?_))
    | (refine PreP.mk hp0 ?_)
    | (refine PreP.mk hp1 ?_)
    | (refine PreP.mk hp2 ?_)
    | ((with_reducible apply DrawG.mk [false, false, false, false, false, false, false, true, true, true, true, true, true, true, true, true, true, true, true]); · decide +kernel)
    | ((with_reducible apply DrawG.mk [false, false, false, false, false, false, false, true, false, false, false, false, false, false, false, true, false, false, true]); · decide +kernel)
    | ((with_reducible first | apply NeedRows.mk | apply NeedMap.mk | apply NeedIter.mk); · exact ab_look)
    | ((with_reducible apply NeedLen.mk); · first | assumption | rfl)
    | ((with_reducible apply NeedRow.mk); · exact ab_lookR)
    | ((with_reducible apply DrawG.mk (List.replicate 60 false)); · decide +kernel)
    | (with_reducible first | refine NewP.mk (fun id hid => ?_) | refine NilP.mk (fun e he => ?_))
    | (with_reducible first | exact trivial | exact And.intro rfl rfl)
    | ((with_reducible apply PreP.mk); · exact ab_asked)
    | refine Exists.intro _ (PreP.mk (bytesOf_lst _) ?_)
    | refine PreP.mk (lenD_lst _) ?_
    | (with_reducible first | refine PreP.mk ?_ ?_ | refine BothP.mk ?_ ?_)
    | ((with_reducible apply AncOr.anc); · decide +kernel)
    | with_reducible refine AncOr.go ?_)
  · rw [wi]
    show (fs.length : Int).toNat - ((i : Int) + 1).toNat = (List.take ((fs.length : Int).toNat - ((i : Int) + 1).toNat) (List.drop (0 + ((i : Int) + 1).toNat) (fs.map rowF))).length
    simp
  · have e1 : (List.take ((fs.length : Int).toNat - (IntKind.i64.wrap ((i : Int) + 1)).toNat) (List.drop (0 + (IntKind.i64.wrap ((i : Int) + 1)).toNat) (fs.map rowF))).length ≤ fs.length := by first | (simp; done) | (simp; omega)
    have e2 : (List.take i (fs.map rowF)).length ≤ fs.length := by simp; omega
    refine ⟨?_, ?_, fun q hq => (hones q (List.mem_of_mem_drop (List.mem_of_mem_take hq))).1, fun q hq => (hones q (List.mem_of_mem_drop (List.mem_of_mem_take hq))).2, by simp⟩
    · refine Nat.le_trans (Nat.mul_le_mul_right 48 (Nat.add_le_add e2 e1)) ?_
      unfold maxRoom; omega
    · unfold maxS; omega
  refine AppTo.new (fun id4 hid4 => ?_)
  have e3 : List.take (List.take i (fs.map rowF)).length (List.drop 0 (List.take i (fs.map rowF))) = (fs.map rowF).take i := by rw [List.drop_zero, List.take_length]
  have e4 : List.take ((fs.length : Int).toNat - (IntKind.i64.wrap ((i : Int) + 1)).toNat) (List.drop (0 + (IntKind.i64.wrap ((i : Int) + 1)).toNat) (fs.map rowF)) = (fs.map rowF).drop (i + 1) := by
    rw [wi, show ((i : Int) + 1).toNat = i + 1 by omega, Nat.zero_add]
    exact List.take_of_length_le (by simp)
  rw [e3, e4]
  have hl4 : id4 = H.length + 3 := by rw [hid4, List.length_append, setN_length]; simp
  have hc1 : id4 ≠ r := by omega
  have hc2 : r ≠ id4 := by omega
  have hc3 : id3 ≠ id := by omega
  have hc4 : id ≠ id3 := by omega
  repeat' (first
    | ((with_reducible apply Onw.mk); conv => whnf)
    | (with_reducible first | apply Br.tt | apply Br.ff | apply Br.no)
    | ((with_reducible apply Br.t); · assumption)
    | ((with_reducible apply Br.f); · assumption)
    | ((with_reducible apply Br.dt); · exact ab_known)
    | ((with_reducible apply Br.df); · exact ab_known)
    | (with_reducible first | refine Br.dec (fun hc => ?_) (fun hc => ?_) | refine Br.mk (fun hc => ?_) (fun hc => ?_))
    | (refine PreP.mk hp0 ?_)
    | (refine PreP.mk hp1 ?_)
    | (refine PreP.mk hp2 ?_)
    | ((with_reducible apply DrawG.mk [false, false, false, false, false, false, false, true, true, true, true, true, true, true, true, true, true, true, true]); · decide +kernel)
    | ((with_reducible apply DrawG.mk [false, false, false, false, false, false, false, true, false, false, false, false, false, false, false, true, false, false, true]); · decide +kernel)
    | ((with_reducible first | apply NeedRows.mk | apply NeedMap.mk | apply NeedIter.mk); · exact ab_look)
    | ((with_reducible apply NeedLen.mk); · first | assumption | rfl)
    | ((with_reducible apply NeedRow.mk); · exact ab_lookR)
    | ((with_reducible apply DrawG.mk (List.replicate 60 false)); · decide +kernel)
    | (with_reducible first | refine NewP.mk (fun id hid => ?_) | refine NilP.mk (fun e he => ?_))
    | (with_reducible first | exact trivial | exact And.intro rfl rfl)
    | ((with_reducible apply PreP.mk); · exact ab_asked)
    | refine Exists.intro _ (PreP.mk (bytesOf_lst _) ?_)
    | refine PreP.mk (lenD_lst _) ?_
    | (with_reducible first | refine PreP.mk ?_ ?_ | refine BothP.mk ?_ ?_)
    | ((with_reducible apply AncOr.anc); · decide +kernel)
    | with_reducible refine AncOr.go ?_)
  refine ⟨rfl, ?_⟩
  refine (drop_heap hlr (by assumption) hl2 hl3).trans ?_
  unfold dropHeap
  rw [← hl4]
  have e5 : (List.take i (fs.map rowF)).length + (List.drop (i + 1) (fs.map rowF)).length = fs.length - 1 := by simp; omega
  exact congrArg (fun n => setN (H ++ [.rows [rowF f], .rows [rowF f], .gone, .rows ((fs.map rowF).take i ++ (fs.map rowF).drop (i + 1))]) r (rRow id4 n q s p o)) e5
end Go.Proofs.Ytanknokhbfijdaa
