/- What functions of the disk, and of the laws over it, do. Conditions: those that each theorem names. -/
import Derived.Test.YtanknokhbfijdaaD71
import Derived.Test.YtanknokhbfijdaaKc
set_option linter.unusedVariables false
set_option linter.unusedSimpArgs false
namespace Go.Proofs.Ytanknokhbfijdaa
open Go.Ab
set_option maxRecDepth 100000
set_option maxHeartbeats 1000000
attribute [local irreducible] Run CallOK DetCall Br PreP BothP AncOr Onw NeedRows NeedMap NeedRow NeedLen NilP NeedIter RoundP EntryP EqP OptP NewP NewSlice NewMade AppTo DrawG anc drawB
/-- A file of the document's disk: where its bytes lie. -/
structure RFl where
  name : List UInt8
  bid : Nat
  bytes : List UInt8
  kept : Nat
def rpf (f : RFl) : PF := ⟨f.name, f.bytes, f.kept⟩
def rowF (f : RFl) : List D := [.p (.str f.name), .own f.bid 1 0 f.bytes.length none, i64 f.kept]
def rRow (fid : Nat) (n : Nat) (q s p : Int) (o : Bool) : Ab.Obj := .rows [[.own fid 3 0 n none, i64 q, i64 s, i64 p, boolD o]]
structure RAt (H : Heap) (r fid : Nat) (fs : List RFl) (q s p : Int) (o : Bool) : Prop where
  row : nth H r = some (rRow fid fs.length q s p o)
  rows : nth H fid = some (.rows (fs.map rowF))
  bytes : ∀ f ∈ fs, nth H f.bid = some (.rows (f.bytes.map byteRowD))
  ids : (r :: fid :: fs.map (·.bid)).Nodup

/-! ### Name -/
theorem s54 (l : List UInt8) (hl : l.length ≤ 1000) (H : Heap) : Ab.Spec Try.prog 54 [.p (.str l)] H (fun r H' => H' = H ∧ r = boolD (okName l)) := by
  refine Ab.Spec.walk hm Try.func54 (by kernel_rfl) 40 ?_
  repeat' (first
    | ((with_reducible apply Onw.mk); conv => whnf)
    | (with_reducible first | apply Br.tt | apply Br.ff | apply Br.no)
    | ((with_reducible apply Br.t); · assumption)
    | ((with_reducible apply Br.f); · assumption)
    | ((with_reducible apply Br.dt); · exact ab_known)
    | ((with_reducible apply Br.df); · exact ab_known)
    | (with_reducible first | refine Br.dec (fun hc => ?_) (fun hc => ?_) | refine Br.mk (fun hc => ?_) (fun hc => ?_))
    | ((with_reducible first | apply NeedRows.mk | apply NeedMap.mk | apply NeedIter.mk); · exact ab_look)
    | ((with_reducible apply NeedLen.mk); · first | assumption | rfl)
    | ((with_reducible apply NeedRow.mk); · exact ab_lookR)
    | ((with_reducible apply DrawG.mk (List.replicate 60 false)); · decide +kernel)
    | (with_reducible first | refine NewP.mk (fun id hid => ?_) | refine NilP.mk (fun e he => ?_))
    | (with_reducible first | exact trivial | exact And.intro rfl rfl)
    | ((with_reducible apply PreP.mk); · exact ab_asked)
    | refine Exists.intro _ (PreP.mk (bytesOf_lst _) ?_)
    | refine PreP.mk (lenD_lst _) ?_
    | (with_reducible first | refine PreP.mk ?_ ?_ | refine BothP.mk ?_ ?_)
    | ((with_reducible apply AncOr.anc); · decide +kernel)
    | with_reducible refine AncOr.go ?_)
  refine Run.keep [(0, .p (.str l)), (3, i64 (0 : Nat))] ⟨rfl, rfl, trivial⟩ ?_
  refine Run.loop (fun (i : Nat) => [(0, .p (.str l)), (3, i64 i)]) (fun _ => H) (fun i => i ≤ l.length ∧ ∀ k, k < i → nameB (l.getD k 0).toNat = true) (fun i => l.length - i) ?_ 0 ⟨Nat.zero_le _, fun k h => absurd h (Nat.not_lt_zero _)⟩
  intro i hi ih
  refine Run.walk hm Try.func54 100 ?_
  unfold okName
  repeat' (first
    | ((with_reducible apply Onw.mk); conv => whnf)
    | (with_reducible first | apply Br.tt | apply Br.ff | apply Br.no)
    | ((with_reducible apply Br.t); · assumption)
    | ((with_reducible apply Br.f); · assumption)
    | ((with_reducible apply Br.dt); · exact ab_known)
    | ((with_reducible apply Br.df); · exact ab_known)
    | (with_reducible first | refine Br.dec (fun hc => ?_) (fun hc => ?_) | refine Br.mk (fun hc => ?_) (fun hc => ?_))
    | ((with_reducible first | apply NeedRows.mk | apply NeedMap.mk | apply NeedIter.mk); · exact ab_look)
    | ((with_reducible apply NeedLen.mk); · first | assumption | rfl)
    | ((with_reducible apply NeedRow.mk); · exact ab_lookR)
    | ((with_reducible apply DrawG.mk (List.replicate 60 false)); · decide +kernel)
    | (with_reducible first | refine NewP.mk (fun id hid => ?_) | refine NilP.mk (fun e he => ?_))
    | (with_reducible first | exact trivial | exact And.intro rfl rfl)
    | ((with_reducible apply PreP.mk); · exact ab_asked)
    | refine Exists.intro _ (PreP.mk (bytesOf_lst _) ?_)
    | refine PreP.mk (lenD_lst _) ?_
    | (with_reducible first | refine PreP.mk ?_ ?_ | refine BothP.mk ?_ ?_)
    | ((with_reducible apply AncOr.anc); · decide +kernel)
    | with_reducible refine AncOr.go ?_)
  all_goals first
    | (refine Run.keep _ ?_ (ih (i + 1) ⟨by omega, fun k hk => ?_⟩ (by omega))
       · exact ⟨rfl, slot64 (by omega) (by omega) (by omega), trivial⟩
       · rcases Nat.lt_or_ge k i with h | h
         · exact hi.2 k h
         · have e : k = Int.toNat (i : Int) := by omega
           rw [e]
           simp only [nameB, Bool.or_eq_true, decide_eq_true_eq]
           omega)
    | (refine ⟨rfl, ?_⟩
       have hn : nameB (l.getD (Int.toNat (i : Int)) 0).toNat = false := by
         rw [Bool.eq_false_iff]
         simp only [nameB, ne_eq, Bool.or_eq_true, decide_eq_true_eq]
         omega
       rw [all_false (i := Int.toNat (i : Int)) (by omega) hn]
       rfl)
    | (refine ⟨rfl, ?_⟩
       have e : i = l.length := by omega
       subst e
       rw [all_true hi.2]
       simp only [Bool.true_and]
       refine congrArg boolD ?_
       rw [Bool.eq_iff_iff]
       simp only [decide_eq_true_eq, Bool.false_eq_true, false_iff]
       omega)

/-! ### New, step, Power -/
theorem s26 (H : Heap) (q : Int) : Ab.Spec Try.prog 26 [i64 q] H (fun r H' => r = .ptr H.length 0 0 ∧ H' = H ++ [.rows [[.p .nil, i64 q, i64 0, i64 0, boolD false]]]) := by
  refine Ab.Spec.walk hm Try.func26 (by kernel_rfl) 40 ?_
  repeat' (first
    | ((with_reducible apply Onw.mk); conv => whnf)
    | (with_reducible first | apply Br.tt | apply Br.ff | apply Br.no)
    | ((with_reducible apply Br.t); · assumption)
    | ((with_reducible apply Br.f); · assumption)
    | ((with_reducible apply Br.dt); · exact ab_known)
    | ((with_reducible apply Br.df); · exact ab_known)
    | (with_reducible first | refine Br.dec (fun hc => ?_) (fun hc => ?_) | refine Br.mk (fun hc => ?_) (fun hc => ?_))
    | ((with_reducible first | apply NeedRows.mk | apply NeedMap.mk | apply NeedIter.mk); · exact ab_look)
    | ((with_reducible apply NeedLen.mk); · first | assumption | rfl)
    | ((with_reducible apply NeedRow.mk); · exact ab_lookR)
    | ((with_reducible apply DrawG.mk (List.replicate 60 false)); · decide +kernel)
    | (with_reducible first | refine NewP.mk (fun id hid => ?_) | refine NilP.mk (fun e he => ?_))
    | (with_reducible first | exact trivial | exact And.intro rfl rfl)
    | ((with_reducible apply PreP.mk); · exact ab_asked)
    | refine Exists.intro _ (PreP.mk (bytesOf_lst _) ?_)
    | refine PreP.mk (lenD_lst _) ?_
    | (with_reducible first | refine PreP.mk ?_ ?_ | refine BothP.mk ?_ ?_)
    | ((with_reducible apply AncOr.anc); · decide +kernel)
    | with_reducible refine AncOr.go ?_)
  subst hid
  exact ⟨rfl, rfl⟩
theorem s53 (H : Heap) (r fid : Nat) (n : Nat) (q s p : Int) (o : Bool) (h : nth H r = some (rRow fid n q s p o)) (hs : 0 ≤ s) (hs2 : s ≤ 1000000) (hp : 0 ≤ p) (hp2 : p ≤ 9223372036854775807) :
    Ab.Spec Try.prog 53 [.ptr r 0 0] H (fun res H' => res = boolD (!(o || (decide (0 < p) && decide (p - 1 = 0)))) ∧ H' = setN H r (rRow fid n q (s + 1) (if 0 < p then p - 1 else p) (o || (decide (0 < p) && decide (p - 1 = 0))))) := by
  unfold rRow at h
  have w1 : IntKind.i64.wrap (s + 1) = s + 1 := wrap64 (by omega) (by omega)
  refine Ab.Spec.walk hm Try.func53 (by kernel_rfl) 200 ?_
  rcases Int.lt_or_le 0 p with hp0 | hp0
  · have hc : (0 : Int) < p := hp0
    have w2 : IntKind.i64.wrap (p - 1) = p - 1 := wrap64 (by omega) (by omega)
    repeat' (first
      | ((with_reducible apply Onw.mk); conv => whnf)
      | (with_reducible first | apply Br.tt | apply Br.ff | apply Br.no)
      | ((with_reducible apply Br.t); · assumption)
      | ((with_reducible apply Br.f); · assumption)
      | ((with_reducible apply Br.dt); · exact ab_known)
      | ((with_reducible apply Br.df); · exact ab_known)
      | (with_reducible first | refine Br.dec (fun hc => ?_) (fun hc => ?_) | refine Br.mk (fun hc => ?_) (fun hc => ?_))
      | ((with_reducible first | apply NeedRows.mk | apply NeedMap.mk | apply NeedIter.mk); · exact ab_look)
      | ((with_reducible apply NeedLen.mk); · first | assumption | rfl)
      | ((with_reducible apply NeedRow.mk); · exact ab_lookR)
      | ((with_reducible apply DrawG.mk (List.replicate 60 false)); · decide +kernel)
      | (with_reducible first | refine NewP.mk (fun id hid => ?_) | refine NilP.mk (fun e he => ?_))
      | (with_reducible first | exact trivial | exact And.intro rfl rfl)
      | ((with_reducible apply PreP.mk); · exact ab_asked)
      | refine Exists.intro _ (PreP.mk (bytesOf_lst _) ?_)
      | refine PreP.mk (lenD_lst _) ?_
      | (with_reducible first | refine PreP.mk ?_ ?_ | refine BothP.mk ?_ ?_)
      | ((with_reducible apply AncOr.anc); · decide +kernel)
      | with_reducible refine AncOr.go ?_)
    all_goals
      refine ⟨by subst hc; simp [mkRes, hp0, w2], ?_⟩
      subst hc
      rw [setN_setN, setN_setN, w1, w2]
      simp [rRow, setN, hp0]
      rfl
  · have hc : ¬ (0 : Int) < p := by omega
    repeat' (first
      | ((with_reducible apply Onw.mk); conv => whnf)
      | (with_reducible first | apply Br.tt | apply Br.ff | apply Br.no)
      | ((with_reducible apply Br.t); · assumption)
      | ((with_reducible apply Br.f); · assumption)
      | ((with_reducible apply Br.dt); · exact ab_known)
      | ((with_reducible apply Br.df); · exact ab_known)
      | (with_reducible first | refine Br.dec (fun hc => ?_) (fun hc => ?_) | refine Br.mk (fun hc => ?_) (fun hc => ?_))
      | ((with_reducible first | apply NeedRows.mk | apply NeedMap.mk | apply NeedIter.mk); · exact ab_look)
      | ((with_reducible apply NeedLen.mk); · first | assumption | rfl)
      | ((with_reducible apply NeedRow.mk); · exact ab_lookR)
      | ((with_reducible apply DrawG.mk (List.replicate 60 false)); · decide +kernel)
      | (with_reducible first | refine NewP.mk (fun id hid => ?_) | refine NilP.mk (fun e he => ?_))
      | (with_reducible first | exact trivial | exact And.intro rfl rfl)
      | ((with_reducible apply PreP.mk); · exact ab_asked)
      | refine Exists.intro _ (PreP.mk (bytesOf_lst _) ?_)
      | refine PreP.mk (lenD_lst _) ?_
      | (with_reducible first | refine PreP.mk ?_ ?_ | refine BothP.mk ?_ ?_)
      | ((with_reducible apply AncOr.anc); · decide +kernel)
      | with_reducible refine AncOr.go ?_)
    refine ⟨by simp [mkRes, hc], ?_⟩
    rw [w1]
    simp [rRow, setN, hc]
    rfl
theorem s31 (H : Heap) (r fid : Nat) (n : Nat) (q s p : Int) (o : Bool) (a : Int) (h : nth H r = some (rRow fid n q s p o)) :
    Ab.Spec Try.prog 31 [.ptr r 0 0, i64 a] H (fun res H' => res = .tup [] ∧ H' = (bif o then H else setN H r (rRow fid n q s (if a < 0 then 0 else a) o))) := by
  unfold rRow at h
  refine Ab.Spec.walk hm Try.func31 (by kernel_rfl) 200 ?_
  cases o with
  | true =>
    repeat' (first
      | ((with_reducible apply Onw.mk); conv => whnf)
      | (with_reducible first | apply Br.tt | apply Br.ff | apply Br.no)
      | ((with_reducible apply Br.t); · assumption)
      | ((with_reducible apply Br.f); · assumption)
      | ((with_reducible apply Br.dt); · exact ab_known)
      | ((with_reducible apply Br.df); · exact ab_known)
      | (with_reducible first | refine Br.dec (fun hc => ?_) (fun hc => ?_) | refine Br.mk (fun hc => ?_) (fun hc => ?_))
      | ((with_reducible first | apply NeedRows.mk | apply NeedMap.mk | apply NeedIter.mk); · exact ab_look)
      | ((with_reducible apply NeedLen.mk); · first | assumption | rfl)
      | ((with_reducible apply NeedRow.mk); · exact ab_lookR)
      | ((with_reducible apply DrawG.mk (List.replicate 60 false)); · decide +kernel)
      | (with_reducible first | refine NewP.mk (fun id hid => ?_) | refine NilP.mk (fun e he => ?_))
      | (with_reducible first | exact trivial | exact And.intro rfl rfl)
      | ((with_reducible apply PreP.mk); · exact ab_asked)
      | refine Exists.intro _ (PreP.mk (bytesOf_lst _) ?_)
      | refine PreP.mk (lenD_lst _) ?_
      | (with_reducible first | refine PreP.mk ?_ ?_ | refine BothP.mk ?_ ?_)
      | ((with_reducible apply AncOr.anc); · decide +kernel)
      | with_reducible refine AncOr.go ?_)
  | false =>
    repeat' (first
      | ((with_reducible apply Onw.mk); conv => whnf)
      | (with_reducible first | apply Br.tt | apply Br.ff | apply Br.no)
      | ((with_reducible apply Br.t); · assumption)
      | ((with_reducible apply Br.f); · assumption)
      | ((with_reducible apply Br.dt); · exact ab_known)
      | ((with_reducible apply Br.df); · exact ab_known)
      | (with_reducible first | refine Br.dec (fun hc => ?_) (fun hc => ?_) | refine Br.mk (fun hc => ?_) (fun hc => ?_))
      | ((with_reducible first | apply NeedRows.mk | apply NeedMap.mk | apply NeedIter.mk); · exact ab_look)
      | ((with_reducible apply NeedLen.mk); · first | assumption | rfl)
      | ((with_reducible apply NeedRow.mk); · exact ab_lookR)
      | ((with_reducible apply DrawG.mk (List.replicate 60 false)); · decide +kernel)
      | (with_reducible first | refine NewP.mk (fun id hid => ?_) | refine NilP.mk (fun e he => ?_))
      | (with_reducible first | exact trivial | exact And.intro rfl rfl)
      | ((with_reducible apply PreP.mk); · exact ab_asked)
      | refine Exists.intro _ (PreP.mk (bytesOf_lst _) ?_)
      | refine PreP.mk (lenD_lst _) ?_
      | (with_reducible first | refine PreP.mk ?_ ?_ | refine BothP.mk ?_ ?_)
      | ((with_reducible apply AncOr.anc); · decide +kernel)
      | with_reducible refine AncOr.go ?_)
end Go.Proofs.Ytanknokhbfijdaa
