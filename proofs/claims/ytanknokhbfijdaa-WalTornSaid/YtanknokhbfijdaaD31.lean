/- What functions of the disk, and of the laws over it, do. Conditions: those that each theorem names. -/
import Derived.Test.YtanknokhbfijdaaD30
set_option linter.unusedVariables false
set_option linter.unusedSimpArgs false
namespace Go.Proofs.Ytanknokhbfijdaa
open Go.Ab
set_option maxRecDepth 100000
set_option maxHeartbeats 1000000
attribute [local irreducible] Run CallOK DetCall Br PreP BothP AncOr Onw NeedRows NeedMap NeedRow NeedLen NilP NeedIter RoundP EntryP EqP OptP NewP NewSlice NewMade AppTo DrawG anc drawB
theorem s75 (H : Heap) : Ab.Spec Try.prog 75 [i64 4] H (fun r H' => H' = H ∧ r = i64 4) := by
  refine Ab.Spec.walk hm Try.func75 (by kernel_rfl) 100 ?_
  repeat' (first
    | ((with_reducible apply Onw.mk); conv => whnf)
    | (with_reducible first | apply Br.tt | apply Br.ff | apply Br.no)
    | ((with_reducible apply Br.t); · assumption)
    | ((with_reducible apply Br.f); · assumption)
    | ((with_reducible apply Br.dt); · exact ab_known)
    | ((with_reducible apply Br.df); · exact ab_known)
    | (with_reducible first | refine Br.dec (fun hc => ?_) (fun hc => ?_) | refine Br.mk (fun hc => ?_) (fun hc => ?_))
    | ((with_reducible first | apply NeedRows.mk | apply NeedMap.mk | apply NeedIter.mk); · exact ab_look)
    | ((with_reducible apply NeedLen.mk); · first | assumption | rfl)
    | ((with_reducible apply NeedRow.mk); · exact ab_lookR)
    | ((with_reducible apply DrawG.mk (List.replicate 60 false)); · decide +kernel)
    | (with_reducible first | refine NewP.mk (fun id hid => ?_) | refine NilP.mk (fun e he => ?_))
    | (with_reducible first | exact trivial | exact And.intro rfl rfl)
    | ((with_reducible apply PreP.mk); · exact ab_asked)
    | refine Exists.intro _ (PreP.mk (bytesOf_lst _) ?_)
    | refine PreP.mk (lenD_lst _) ?_
    | (with_reducible first | refine PreP.mk ?_ ?_ | refine BothP.mk ?_ ?_)
    | ((with_reducible apply AncOr.anc); · decide +kernel)
    | with_reducible refine AncOr.go ?_)
theorem fdiv_nat (n m : Nat) : (n : Int).fdiv (2 ^ m) = ((n / 2 ^ m : Nat) : Int) := by
  have e : (2 : Int) ^ m = ((2 ^ m : Nat) : Int) := by simp
  rw [e, Int.fdiv_eq_ediv_of_nonneg _ (Int.natCast_nonneg _)]
  rfl
/-- The bytes of a number, the least first. -/
def putL (n k : Nat) : List UInt8 := (List.range k).map fun j => UInt8.ofNat (n / 2 ^ (8 * j))
theorem putL_succ (n k : Nat) : putL n (k + 1) = putL n k ++ [UInt8.ofNat (n / 2 ^ (8 * k))] := by
  unfold putL
  rw [List.range_succ, List.map_append]; rfl
theorem rows_app (a b : List UInt8) : (a.map byteRow).map (·.map D.p) ++ b.map byteRowD = (a ++ b).map byteRowD := by
  rw [byteRow_map, List.map_append]
theorem s65 (H : Heap) (n : Nat) (hn : n < 18446744073709551616) : Ab.Spec Try.prog 65 [.p .nil, u64 n, i64 4] H (fun r H' => ∃ id, OwnL H H' id ((putL n 4).map byteRow) ∧ r = .own id 1 0 4 none) := by
  refine Ab.Spec.walk hm Try.func65 (by kernel_rfl) 100 ?_
  repeat' (first
    | ((with_reducible apply Onw.mk); conv => whnf)
    | (with_reducible first | apply Br.tt | apply Br.ff | apply Br.no)
    | ((with_reducible apply Br.t); · assumption)
    | ((with_reducible apply Br.f); · assumption)
    | ((with_reducible apply Br.dt); · exact ab_known)
    | ((with_reducible apply Br.df); · exact ab_known)
    | (with_reducible first | refine Br.dec (fun hc => ?_) (fun hc => ?_) | refine Br.mk (fun hc => ?_) (fun hc => ?_))
    | ((with_reducible first | apply NeedRows.mk | apply NeedMap.mk | apply NeedIter.mk); · exact ab_look)
    | ((with_reducible apply NeedLen.mk); · first | assumption | rfl)
    | ((with_reducible apply NeedRow.mk); · exact ab_lookR)
    | ((with_reducible apply DrawG.mk (List.replicate 60 false)); · decide +kernel)
    | (with_reducible first | refine NewP.mk (fun id hid => ?_) | refine NilP.mk (fun e he => ?_))
    | (with_reducible first | exact trivial | exact And.intro rfl rfl)
    | ((with_reducible apply PreP.mk); · exact ab_asked)
    | refine Exists.intro _ (PreP.mk (bytesOf_lst _) ?_)
    | refine PreP.mk (lenD_lst _) ?_
    | (with_reducible first | refine PreP.mk ?_ ?_ | refine BothP.mk ?_ ?_)
    | ((with_reducible apply AncOr.anc); · decide +kernel)
    | with_reducible refine AncOr.go ?_)
  refine CallOK.go (CallOK.of_spec (s75 _)) (fun r H' hr => ?_)
  obtain ⟨rfl, rfl⟩ := hr
  repeat' (first
    | ((with_reducible apply Onw.mk); conv => whnf)
    | (with_reducible first | apply Br.tt | apply Br.ff | apply Br.no)
    | ((with_reducible apply Br.t); · assumption)
    | ((with_reducible apply Br.f); · assumption)
    | ((with_reducible apply Br.dt); · exact ab_known)
    | ((with_reducible apply Br.df); · exact ab_known)
    | (with_reducible first | refine Br.dec (fun hc => ?_) (fun hc => ?_) | refine Br.mk (fun hc => ?_) (fun hc => ?_))
    | ((with_reducible first | apply NeedRows.mk | apply NeedMap.mk | apply NeedIter.mk); · exact ab_look)
    | ((with_reducible apply NeedLen.mk); · first | assumption | rfl)
    | ((with_reducible apply NeedRow.mk); · exact ab_lookR)
    | ((with_reducible apply DrawG.mk (List.replicate 60 false)); · decide +kernel)
    | (with_reducible first | refine NewP.mk (fun id hid => ?_) | refine NilP.mk (fun e he => ?_))
    | (with_reducible first | exact trivial | exact And.intro rfl rfl)
    | ((with_reducible apply PreP.mk); · exact ab_asked)
    | refine Exists.intro _ (PreP.mk (bytesOf_lst _) ?_)
    | refine PreP.mk (lenD_lst _) ?_
    | (with_reducible first | refine PreP.mk ?_ ?_ | refine BothP.mk ?_ ?_)
    | ((with_reducible apply AncOr.anc); · decide +kernel)
    | with_reducible refine AncOr.go ?_)
  refine Run.virt 0 1 rfl ?_
  refine Run.keep [(0, .own H'.length 1 0 (0 : Nat) none), (1, u64 n), (9, i64 4), (10, i64 (0 : Nat))] ⟨rfl, rfl, rfl, rfl, trivial⟩ ?_
  refine Run.rounds (fun (i : Nat) T H2 => i ≤ 4 ∧ ∃ id, T = [(0, .own id 1 0 i none), (1, u64 n), (9, i64 4), (10, i64 (i : Nat))] ∧ OwnL H' H2 id ((putL n i).map byteRow)) (fun i => 4 - i) ?_ (x := 0) ⟨by omega, _, rfl, OwnL.start H'⟩
  rintro i T H2 ⟨hi, id, rfl, hO⟩ ih
  have hrow := hO.2.2
  rcases Nat.lt_or_ge i 4 with hil | hil
  · have hw8 : IntKind.i64.wrap (8 * (i : Int)) = ((8 * i : Nat) : Int) := by rw [wrap64 (by omega) (by omega)]; omega
    have hx : [D.p (.int .u8 (IntKind.u8.wrap ((n : Int).fdiv (2 ^ (min (IntKind.i64.wrap (8 * (i : Int))).toNat IntKind.u64.bits)))))] = byteRowD (UInt8.ofNat (n / 2 ^ (8 * i))) := by
      have e2 : min ((8 * i : Nat) : Int).toNat IntKind.u64.bits = 8 * i := by
        have : IntKind.u64.bits = 64 := rfl
        rw [this]; omega
      rw [hw8, e2, fdiv_nat, wrapU8_mod]
      simp [byteRowD]
    have hpl : (putL n i).length = i := by simp [putL]
    have hsh : 0 ≤ IntKind.i64.wrap (8 * (i : Int)) := by rw [hw8]; omega
    refine Run.walk hm Try.func65 100 ?_
    repeat' (first
      | ((with_reducible apply Onw.mk); conv => whnf)
      | (with_reducible first | apply Br.tt | apply Br.ff | apply Br.no)
      | ((with_reducible apply Br.t); · assumption)
      | ((with_reducible apply Br.f); · assumption)
      | ((with_reducible apply Br.dt); · exact ab_known)
      | ((with_reducible apply Br.df); · exact ab_known)
      | (with_reducible first | refine Br.dec (fun hc => ?_) (fun hc => ?_) | refine Br.mk (fun hc => ?_) (fun hc => ?_))
      | ((with_reducible first | apply NeedRows.mk | apply NeedMap.mk | apply NeedIter.mk); · exact ab_look)
      | ((with_reducible apply NeedLen.mk); · first | assumption | rfl)
      | ((with_reducible apply NeedRow.mk); · exact ab_lookR)
      | ((with_reducible apply DrawG.mk (List.replicate 60 false)); · decide +kernel)
      | (with_reducible first | refine NewP.mk (fun id hid => ?_) | refine NilP.mk (fun e he => ?_))
      | (with_reducible first | exact trivial | exact And.intro rfl rfl)
      | ((with_reducible apply PreP.mk); · exact ab_asked)
      | refine Exists.intro _ (PreP.mk (bytesOf_lst _) ?_)
      | refine PreP.mk (lenD_lst _) ?_
      | (with_reducible first | refine PreP.mk ?_ ?_ | refine BothP.mk ?_ ?_)
      | ((with_reducible apply AncOr.anc); · decide +kernel)
      | with_reducible refine AncOr.go ?_)
    refine NewSlice.bytes [UInt8.ofNat (n / 2 ^ (8 * i))] (congrArg (fun x => [x]) hx) rfl rfl ?_
    repeat' (first
      | ((with_reducible apply Onw.mk); conv => whnf)
      | (with_reducible first | apply Br.tt | apply Br.ff | apply Br.no)
      | ((with_reducible apply Br.t); · assumption)
      | ((with_reducible apply Br.f); · assumption)
      | ((with_reducible apply Br.dt); · exact ab_known)
      | ((with_reducible apply Br.df); · exact ab_known)
      | (with_reducible first | refine Br.dec (fun hc => ?_) (fun hc => ?_) | refine Br.mk (fun hc => ?_) (fun hc => ?_))
      | ((with_reducible first | apply NeedRows.mk | apply NeedMap.mk | apply NeedIter.mk); · exact ab_look)
      | ((with_reducible apply NeedLen.mk); · first | assumption | rfl)
      | ((with_reducible apply NeedRow.mk); · exact ab_lookR)
      | ((with_reducible apply DrawG.mk (List.replicate 60 false)); · decide +kernel)
      | (with_reducible first | refine NewP.mk (fun id hid => ?_) | refine NilP.mk (fun e he => ?_))
      | (with_reducible first | exact trivial | exact And.intro rfl rfl)
      | ((with_reducible apply PreP.mk); · exact ab_asked)
      | refine Exists.intro _ (PreP.mk (bytesOf_lst _) ?_)
      | refine PreP.mk (lenD_lst _) ?_
      | (with_reducible first | refine PreP.mk ?_ ?_ | refine BothP.mk ?_ ?_)
      | ((with_reducible apply AncOr.anc); · decide +kernel)
      | with_reducible refine AncOr.go ?_)
    · exact appPre2 i 0 _ [UInt8.ofNat (n / 2 ^ (8 * i))] (by simp) (by omega) (by simp [hpl])
    refine AppTo.new (fun id2 hid2 => ?_)
    repeat' (first
      | ((with_reducible apply Onw.mk); conv => whnf)
      | (with_reducible first | apply Br.tt | apply Br.ff | apply Br.no)
      | ((with_reducible apply Br.t); · assumption)
      | ((with_reducible apply Br.f); · assumption)
      | ((with_reducible apply Br.dt); · exact ab_known)
      | ((with_reducible apply Br.df); · exact ab_known)
      | (with_reducible first | refine Br.dec (fun hc => ?_) (fun hc => ?_) | refine Br.mk (fun hc => ?_) (fun hc => ?_))
      | ((with_reducible first | apply NeedRows.mk | apply NeedMap.mk | apply NeedIter.mk); · exact ab_look)
      | ((with_reducible apply NeedLen.mk); · first | assumption | rfl)
      | ((with_reducible apply NeedRow.mk); · exact ab_lookR)
      | ((with_reducible apply DrawG.mk (List.replicate 60 false)); · decide +kernel)
      | (with_reducible first | refine NewP.mk (fun id hid => ?_) | refine NilP.mk (fun e he => ?_))
      | (with_reducible first | exact trivial | exact And.intro rfl rfl)
      | ((with_reducible apply PreP.mk); · exact ab_asked)
      | refine Exists.intro _ (PreP.mk (bytesOf_lst _) ?_)
      | refine PreP.mk (lenD_lst _) ?_
      | (with_reducible first | refine PreP.mk ?_ ?_ | refine BothP.mk ?_ ?_)
      | ((with_reducible apply AncOr.anc); · decide +kernel)
      | with_reducible refine AncOr.go ?_)
    refine Run.keep _ ?_ (ih (i + 1) _ _ (by omega) ⟨by omega, id2, rfl, ?_⟩)
    · exact ⟨rfl, rfl, rfl, slot64 (by omega) (by omega) (by omega), trivial⟩
    · rw [putL_succ]
      refine hO.bytes hid2 ?_
      rw [byteRow_map, List.drop_zero, List.take_of_length_le (by simp [hpl]), byteRow_map, List.map_append]
  · obtain rfl : i = 4 := by omega
    refine Run.walk hm Try.func65 100 ?_
    repeat' (first
      | ((with_reducible apply Onw.mk); conv => whnf)
      | (with_reducible first | apply Br.tt | apply Br.ff | apply Br.no)
      | ((with_reducible apply Br.t); · assumption)
      | ((with_reducible apply Br.f); · assumption)
      | ((with_reducible apply Br.dt); · exact ab_known)
      | ((with_reducible apply Br.df); · exact ab_known)
      | (with_reducible first | refine Br.dec (fun hc => ?_) (fun hc => ?_) | refine Br.mk (fun hc => ?_) (fun hc => ?_))
      | ((with_reducible first | apply NeedRows.mk | apply NeedMap.mk | apply NeedIter.mk); · exact ab_look)
      | ((with_reducible apply NeedLen.mk); · first | assumption | rfl)
      | ((with_reducible apply NeedRow.mk); · exact ab_lookR)
      | ((with_reducible apply DrawG.mk (List.replicate 60 false)); · decide +kernel)
      | (with_reducible first | refine NewP.mk (fun id hid => ?_) | refine NilP.mk (fun e he => ?_))
      | (with_reducible first | exact trivial | exact And.intro rfl rfl)
      | ((with_reducible apply PreP.mk); · exact ab_asked)
      | refine Exists.intro _ (PreP.mk (bytesOf_lst _) ?_)
      | refine PreP.mk (lenD_lst _) ?_
      | (with_reducible first | refine PreP.mk ?_ ?_ | refine BothP.mk ?_ ?_)
      | ((with_reducible apply AncOr.anc); · decide +kernel)
      | with_reducible refine AncOr.go ?_)
    exact ⟨id, hO, rfl⟩
/-- A slice that was grown in a loop, told. -/
theorem CallOK.ownL {Pr : Program} {c : FuncId} {ds : List D} {H : Heap} {ps : List (List P)} (hk : ∀ r ∈ ps, r.length = 1) (h : CallOK Pr c ds H (fun r H' => ∃ id, OwnL H H' id ps ∧ r = .own id 1 0 ps.length none)) :
    CallOK Pr c ds H (fun r H' => r = .p (.lst ps) ∧ H' = H) :=
  (CallOK.frozen (Q := fun q => q = ps) (h.mono fun r H' hr => by
    obtain ⟨id, hO, rfl⟩ := hr
    exact ⟨hO.2.1, ps, rfl, .inl ⟨id, 1, 0, none, _, hO.1, rfl, hO.2.2, by rw [List.drop_zero, List.take_of_length_le (by simp)], hk⟩⟩)).mono fun r H' hr => by
    obtain ⟨h1, ps', h2, rfl⟩ := hr; exact ⟨h2, h1⟩
theorem byteRow_one {b : List UInt8} : ∀ r ∈ b.map byteRow, r.length = 1 := fun r hr => by obtain ⟨x, _, rfl⟩ := List.mem_map.1 hr; rfl
theorem c65 (H : Heap) (n : Nat) (hn : n < 18446744073709551616) : CallOK Try.prog 65 [.p .nil, u64 n, i64 4] H (fun r H' => r = .p (.lst ((putL n 4).map byteRow)) ∧ H' = H) :=
  CallOK.ownL byteRow_one ((CallOK.of_spec (s65 H n hn)).mono fun r H' hr => by
    obtain ⟨id, hO, rfl⟩ := hr
    exact ⟨id, hO, by simp [putL]⟩)
theorem c66 (H : Heap) (l : List UInt8) (hl : l.length ≤ 1000000) : CallOK Try.prog 66 [.p (.lst (l.map byteRow))] H (fun r H' => r = u32 (sumS l) ∧ H' = H) :=
  (CallOK.of_spec (s66 H l hl)).mono fun r H' hr => ⟨hr.2, hr.1⟩
end Go.Proofs.Ytanknokhbfijdaa
