/- What functions of the disk, and of the laws over it, do. Conditions: those that each theorem names. -/
import Derived.Test.YtanknokhbfijdaaD55
set_option linter.unusedVariables false
set_option linter.unusedSimpArgs false
namespace Go.Proofs.Ytanknokhbfijdaa
open Go.Ab
set_option maxRecDepth 100000
set_option maxHeartbeats 1000000
attribute [local irreducible] Run CallOK DetCall Br PreP BothP AncOr Onw NeedRows NeedMap NeedRow NeedLen NilP NeedIter RoundP EntryP EqP OptP NewP NewSlice NewMade AppTo DrawG anc drawB
theorem s39a (H : Heap) (s : List UInt8) (hs : s.length ≤ 4000) : Ab.Spec Try.prog 39 [.p (.str s)] H (fun r H' => ∃ id, OwnL H H' id ((frameL s).map byteRow) ∧ r = .own id 1 0 (frameL s).length none) := by
  have hw : IntKind.u64.wrap (s.length : Int) = (s.length : Int) := wrapU64 (by omega)
  have hw2 : IntKind.u64.wrap (sumS s : Int) = (sumS s : Int) := wrapU64 (by have := sumS_lt s; omega)
  refine Ab.Spec.walk hm Try.func39 (by kernel_rfl) 100 ?_
  repeat' (first
    | ((with_reducible apply Onw.mk); conv => whnf)
    | (with_reducible first | apply Br.tt | apply Br.ff | apply Br.no)
    | ((with_reducible apply Br.t); · assumption)
    | ((with_reducible apply Br.f); · assumption)
    | ((with_reducible apply Br.dt); · exact ab_known)
    | ((with_reducible apply Br.df); · exact ab_known)
    | (with_reducible first | refine Br.dec (fun hc => ?_) (fun hc => ?_) | refine Br.mk (fun hc => ?_) (fun hc => ?_))
    | ((with_reducible first | apply NeedRows.mk | apply NeedMap.mk | apply NeedIter.mk); · exact ab_look)
    | ((with_reducible apply NeedLen.mk); · first | assumption | rfl)
    | ((with_reducible apply NeedRow.mk); · exact ab_lookR)
    | ((with_reducible apply DrawG.mk (List.replicate 60 false)); · decide +kernel)
    | (with_reducible first | refine NewP.mk (fun id hid => ?_) | refine NilP.mk (fun e he => ?_))
    | (with_reducible first | exact trivial | exact And.intro rfl rfl)
    | ((with_reducible apply PreP.mk); · exact ab_asked)
    | refine Exists.intro _ (PreP.mk (bytesOf_lst _) ?_)
    | refine PreP.mk (lenD_lst _) ?_
    | (with_reducible first | refine PreP.mk ?_ ?_ | refine BothP.mk ?_ ?_)
    | ((with_reducible apply AncOr.anc); · decide +kernel)
    | with_reducible refine AncOr.go ?_)
  rw [hw]
  refine CallOK.go (CallOK.of_spec (s67n _ s.length)) (fun r H1 hr => ?_)
  obtain ⟨id1, hO1, rfl⟩ := hr
  repeat' (first
    | ((with_reducible apply Onw.mk); conv => whnf)
    | (with_reducible first | apply Br.tt | apply Br.ff | apply Br.no)
    | ((with_reducible apply Br.t); · assumption)
    | ((with_reducible apply Br.f); · assumption)
    | ((with_reducible apply Br.dt); · exact ab_known)
    | ((with_reducible apply Br.df); · exact ab_known)
    | (with_reducible first | refine Br.dec (fun hc => ?_) (fun hc => ?_) | refine Br.mk (fun hc => ?_) (fun hc => ?_))
    | ((with_reducible first | apply NeedRows.mk | apply NeedMap.mk | apply NeedIter.mk); · exact ab_look)
    | ((with_reducible apply NeedLen.mk); · first | assumption | rfl)
    | ((with_reducible apply NeedRow.mk); · exact ab_lookR)
    | ((with_reducible apply DrawG.mk (List.replicate 60 false)); · decide +kernel)
    | (with_reducible first | refine NewP.mk (fun id hid => ?_) | refine NilP.mk (fun e he => ?_))
    | (with_reducible first | exact trivial | exact And.intro rfl rfl)
    | ((with_reducible apply PreP.mk); · exact ab_asked)
    | refine Exists.intro _ (PreP.mk (bytesOf_lst _) ?_)
    | refine PreP.mk (lenD_lst _) ?_
    | (with_reducible first | refine PreP.mk ?_ ?_ | refine BothP.mk ?_ ?_)
    | ((with_reducible apply AncOr.anc); · decide +kernel)
    | with_reducible refine AncOr.go ?_)
  refine NewSlice.bytes s rfl rfl rfl ?_
  repeat' (first
    | ((with_reducible apply Onw.mk); conv => whnf)
    | (with_reducible first | apply Br.tt | apply Br.ff | apply Br.no)
    | ((with_reducible apply Br.t); · assumption)
    | ((with_reducible apply Br.f); · assumption)
    | ((with_reducible apply Br.dt); · exact ab_known)
    | ((with_reducible apply Br.df); · exact ab_known)
    | (with_reducible first | refine Br.dec (fun hc => ?_) (fun hc => ?_) | refine Br.mk (fun hc => ?_) (fun hc => ?_))
    | ((with_reducible first | apply NeedRows.mk | apply NeedMap.mk | apply NeedIter.mk); · exact ab_look)
    | ((with_reducible apply NeedLen.mk); · first | assumption | rfl)
    | ((with_reducible apply NeedRow.mk); · exact ab_lookR)
    | ((with_reducible apply DrawG.mk (List.replicate 60 false)); · decide +kernel)
    | (with_reducible first | refine NewP.mk (fun id hid => ?_) | refine NilP.mk (fun e he => ?_))
    | (with_reducible first | exact trivial | exact And.intro rfl rfl)
    | ((with_reducible apply PreP.mk); · exact ab_asked)
    | refine Exists.intro _ (PreP.mk (bytesOf_lst _) ?_)
    | refine PreP.mk (lenD_lst _) ?_
    | (with_reducible first | refine PreP.mk ?_ ?_ | refine BothP.mk ?_ ?_)
    | ((with_reducible apply AncOr.anc); · decide +kernel)
    | with_reducible refine AncOr.go ?_)
  refine CallOK.go (CallOK.of_spec (s63 _ s (by omega))) (fun r H2 hr => ?_)
  obtain ⟨rfl, rfl⟩ := hr
  repeat' (first
    | ((with_reducible apply Onw.mk); conv => whnf)
    | (with_reducible first | apply Br.tt | apply Br.ff | apply Br.no)
    | ((with_reducible apply Br.t); · assumption)
    | ((with_reducible apply Br.f); · assumption)
    | ((with_reducible apply Br.dt); · exact ab_known)
    | ((with_reducible apply Br.df); · exact ab_known)
    | (with_reducible first | refine Br.dec (fun hc => ?_) (fun hc => ?_) | refine Br.mk (fun hc => ?_) (fun hc => ?_))
    | ((with_reducible first | apply NeedRows.mk | apply NeedMap.mk | apply NeedIter.mk); · exact ab_look)
    | ((with_reducible apply NeedLen.mk); · first | assumption | rfl)
    | ((with_reducible apply NeedRow.mk); · exact ab_lookR)
    | ((with_reducible apply DrawG.mk (List.replicate 60 false)); · decide +kernel)
    | (with_reducible first | refine NewP.mk (fun id hid => ?_) | refine NilP.mk (fun e he => ?_))
    | (with_reducible first | exact trivial | exact And.intro rfl rfl)
    | ((with_reducible apply PreP.mk); · exact ab_asked)
    | refine Exists.intro _ (PreP.mk (bytesOf_lst _) ?_)
    | refine PreP.mk (lenD_lst _) ?_
    | (with_reducible first | refine PreP.mk ?_ ?_ | refine BothP.mk ?_ ?_)
    | ((with_reducible apply AncOr.anc); · decide +kernel)
    | with_reducible refine AncOr.go ?_)
  rw [hw2]
  have h67 := s67 H _ id1 (putL s.length 4) (sumS s) (by rw [putL_len]; decide) hO1
  rw [putL_len] at h67
  refine CallOK.go (CallOK.of_spec h67) (fun r H3 hr => ?_)
  obtain ⟨id3, hO3, rfl⟩ := hr
  have hrow3 := hO3.2.2
  repeat' (first
    | ((with_reducible apply Onw.mk); conv => whnf)
    | (with_reducible first | apply Br.tt | apply Br.ff | apply Br.no)
    | ((with_reducible apply Br.t); · assumption)
    | ((with_reducible apply Br.f); · assumption)
    | ((with_reducible apply Br.dt); · exact ab_known)
    | ((with_reducible apply Br.df); · exact ab_known)
    | (with_reducible first | refine Br.dec (fun hc => ?_) (fun hc => ?_) | refine Br.mk (fun hc => ?_) (fun hc => ?_))
    | ((with_reducible first | apply NeedRows.mk | apply NeedMap.mk | apply NeedIter.mk); · exact ab_look)
    | ((with_reducible apply NeedLen.mk); · first | assumption | rfl)
    | ((with_reducible apply NeedRow.mk); · exact ab_lookR)
    | ((with_reducible apply DrawG.mk (List.replicate 60 false)); · decide +kernel)
    | (with_reducible first | refine NewP.mk (fun id hid => ?_) | refine NilP.mk (fun e he => ?_))
    | (with_reducible first | exact trivial | exact And.intro rfl rfl)
    | ((with_reducible apply PreP.mk); · exact ab_asked)
    | refine Exists.intro _ (PreP.mk (bytesOf_lst _) ?_)
    | refine PreP.mk (lenD_lst _) ?_
    | (with_reducible first | refine PreP.mk ?_ ?_ | refine BothP.mk ?_ ?_)
    | ((with_reducible apply AncOr.anc); · decide +kernel)
    | with_reducible refine AncOr.go ?_)
  · have := appPre5 (4 + 4) 0 (List.map (fun x => List.map D.p x) (List.map byteRow (putL s.length 4 ++ putL (sumS s) 4))) s (by omega) (by omega) (by simp [putL_len])
    rw [byteRow_map] at this
    exact this
  refine AppTo.new (fun id4 hid4 => ?_)
  repeat' (first
    | ((with_reducible apply Onw.mk); conv => whnf)
    | (with_reducible first | apply Br.tt | apply Br.ff | apply Br.no)
    | ((with_reducible apply Br.t); · assumption)
    | ((with_reducible apply Br.f); · assumption)
    | ((with_reducible apply Br.dt); · exact ab_known)
    | ((with_reducible apply Br.df); · exact ab_known)
    | (with_reducible first | refine Br.dec (fun hc => ?_) (fun hc => ?_) | refine Br.mk (fun hc => ?_) (fun hc => ?_))
    | ((with_reducible first | apply NeedRows.mk | apply NeedMap.mk | apply NeedIter.mk); · exact ab_look)
    | ((with_reducible apply NeedLen.mk); · first | assumption | rfl)
    | ((with_reducible apply NeedRow.mk); · exact ab_lookR)
    | ((with_reducible apply DrawG.mk (List.replicate 60 false)); · decide +kernel)
    | (with_reducible first | refine NewP.mk (fun id hid => ?_) | refine NilP.mk (fun e he => ?_))
    | (with_reducible first | exact trivial | exact And.intro rfl rfl)
    | ((with_reducible apply PreP.mk); · exact ab_asked)
    | refine Exists.intro _ (PreP.mk (bytesOf_lst _) ?_)
    | refine PreP.mk (lenD_lst _) ?_
    | (with_reducible first | refine PreP.mk ?_ ?_ | refine BothP.mk ?_ ?_)
    | ((with_reducible apply AncOr.anc); · decide +kernel)
    | with_reducible refine AncOr.go ?_)
  have hO4 := hO3.bytes (b := s) hid4 (X := List.take (4 + 4) (List.drop 0 (((putL s.length 4 ++ putL (sumS s) 4).map byteRow).map (·.map D.p))) ++ s.map byteRowD) (by
    rw [byteRow_map, List.drop_zero, List.take_of_length_le (by simp [putL_len]), ← List.map_append])
  refine ⟨id4, hO4, ?_⟩
  rw [frameL_len]
  exact congrArg (fun n => D.own id4 1 0 n none) (by rw [List.length_map]; omega)
theorem c39 (H : Heap) (s : List UInt8) (hs : s.length ≤ 1000000) : CallOK Try.prog 39 [.p (.str s)] H (fun r H' => r = (if 4000 < s.length then .p .nil else .p (.lst ((frameL s).map byteRow))) ∧ H' = H) := by
  rcases Nat.lt_or_ge 4000 s.length with h | h
  · rw [if_pos h]
    refine CallOK.of_spec ?_
    refine Ab.Spec.walk hm Try.func39 (by kernel_rfl) 100 ?_
    repeat' (first
      | ((with_reducible apply Onw.mk); conv => whnf)
      | (with_reducible first | apply Br.tt | apply Br.ff | apply Br.no)
      | ((with_reducible apply Br.t); · assumption)
      | ((with_reducible apply Br.f); · assumption)
      | ((with_reducible apply Br.dt); · exact ab_known)
      | ((with_reducible apply Br.df); · exact ab_known)
      | (with_reducible first | refine Br.dec (fun hc => ?_) (fun hc => ?_) | refine Br.mk (fun hc => ?_) (fun hc => ?_))
      | ((with_reducible first | apply NeedRows.mk | apply NeedMap.mk | apply NeedIter.mk); · exact ab_look)
      | ((with_reducible apply NeedLen.mk); · first | assumption | rfl)
      | ((with_reducible apply NeedRow.mk); · exact ab_lookR)
      | ((with_reducible apply DrawG.mk (List.replicate 60 false)); · decide +kernel)
      | (with_reducible first | refine NewP.mk (fun id hid => ?_) | refine NilP.mk (fun e he => ?_))
      | (with_reducible first | exact trivial | exact And.intro rfl rfl)
      | ((with_reducible apply PreP.mk); · exact ab_asked)
      | refine Exists.intro _ (PreP.mk (bytesOf_lst _) ?_)
      | refine PreP.mk (lenD_lst _) ?_
      | (with_reducible first | refine PreP.mk ?_ ?_ | refine BothP.mk ?_ ?_)
      | ((with_reducible apply AncOr.anc); · decide +kernel)
      | with_reducible refine AncOr.go ?_)
  · rw [if_neg (by omega)]
    have h1 := CallOK.of_spec (s39a H s h)
    rw [show (frameL s).length = ((frameL s).map byteRow).length by simp] at h1
    exact CallOK.ownL byteRow_one h1
def getR2 (b : List UInt8) : D := if b.length < 4 then .tup [u64 0, .p (.lst (b.map byteRow)), boolD false] else .tup [u64 (valN (b.take 4)), .p (.lst ((b.drop 4).map byteRow)), boolD true]
theorem s62 (H : Heap) (b : List UInt8) (hb : b.length ≤ 10000000) : Ab.Spec Try.prog 62 [.p (.lst (b.map byteRow)), i64 4] H (fun r H' => H' = H ∧ r = getR2 b) := by
  have hlb : ((b.map byteRow).length : Int) = b.length := by simp
  rcases Nat.lt_or_ge b.length 4 with hlt | hge
  · refine Ab.Spec.walk hm Try.func62 (by kernel_rfl) 100 ?_
    repeat' (first
      | ((with_reducible apply Onw.mk); conv => whnf)
      | (with_reducible first | apply Br.tt | apply Br.ff | apply Br.no)
      | ((with_reducible apply Br.t); · assumption)
      | ((with_reducible apply Br.f); · assumption)
      | ((with_reducible apply Br.dt); · exact ab_known)
      | ((with_reducible apply Br.df); · exact ab_known)
      | (with_reducible first | refine Br.dec (fun hc => ?_) (fun hc => ?_) | refine Br.mk (fun hc => ?_) (fun hc => ?_))
      | ((with_reducible first | apply NeedRows.mk | apply NeedMap.mk | apply NeedIter.mk); · exact ab_look)
      | ((with_reducible apply NeedLen.mk); · first | assumption | rfl)
      | ((with_reducible apply NeedRow.mk); · exact ab_lookR)
      | ((with_reducible apply DrawG.mk (List.replicate 60 false)); · decide +kernel)
      | (with_reducible first | refine NewP.mk (fun id hid => ?_) | refine NilP.mk (fun e he => ?_))
      | (with_reducible first | exact trivial | exact And.intro rfl rfl)
      | ((with_reducible apply PreP.mk); · exact ab_asked)
      | refine Exists.intro _ (PreP.mk (bytesOf_lst _) ?_)
      | refine PreP.mk (lenD_lst _) ?_
      | (with_reducible first | refine PreP.mk ?_ ?_ | refine BothP.mk ?_ ?_)
      | ((with_reducible apply AncOr.anc); · decide +kernel)
      | with_reducible refine AncOr.go ?_)
    · refine ⟨rfl, ?_⟩
      unfold getR2
      rw [if_pos hlt]; rfl
    · exact absurd (show ((b.map byteRow).length : Int) < 4 by omega) hc
  have hone : ∀ r ∈ b.map byteRow, r.length = 1 := byteRow_one
  have hps2 : (0 : Int) ≤ 4 ∧ (4 : Int) ≤ ((b.map byteRow).length : Int) ∧ ((b.map byteRow).length : Int) ≤ ((b.map byteRow).length : Int) ∧ ∀ r ∈ b.map byteRow, r.length = 1 := ⟨by omega, by omega, by omega, hone⟩
  refine Ab.Spec.walk hm Try.func62 (by kernel_rfl) 100 ?_
  repeat' (first
    | ((with_reducible apply Onw.mk); conv => whnf)
    | (with_reducible first | apply Br.tt | apply Br.ff | apply Br.no)
    | ((with_reducible apply Br.t); · assumption)
    | ((with_reducible apply Br.f); · assumption)
    | ((with_reducible apply Br.dt); · exact ab_known)
    | ((with_reducible apply Br.df); · exact ab_known)
    | (with_reducible first | refine Br.dec (fun hc => ?_) (fun hc => ?_) | refine Br.mk (fun hc => ?_) (fun hc => ?_))
    | ((with_reducible first | apply NeedRows.mk | apply NeedMap.mk | apply NeedIter.mk); · exact ab_look)
    | ((with_reducible apply NeedLen.mk); · first | assumption | rfl)
    | ((with_reducible apply NeedRow.mk); · exact ab_lookR)
    | ((with_reducible apply DrawG.mk (List.replicate 60 false)); · decide +kernel)
    | (with_reducible first | refine NewP.mk (fun id hid => ?_) | refine NilP.mk (fun e he => ?_))
    | (with_reducible first | exact trivial | exact And.intro rfl rfl)
    | ((with_reducible apply PreP.mk); · exact ab_asked)
    | refine Exists.intro _ (PreP.mk (bytesOf_lst _) ?_)
    | refine PreP.mk (lenD_lst _) ?_
    | (with_reducible first | refine PreP.mk ?_ ?_ | refine BothP.mk ?_ ?_)
    | ((with_reducible apply AncOr.anc); · decide +kernel)
    | with_reducible refine AncOr.go ?_)
  · exact absurd hc (show ¬ ((b.map byteRow).length : Int) < 4 by omega)
  refine Run.keep [(0, .p (.lst (b.map byteRow))), (7, i64 4), (8, u64 (valN (b.take 0))), (9, i64 (0 : Nat))] ⟨rfl, rfl, rfl, rfl, trivial⟩ ?_
  refine Run.loop (fun (i : Nat) => [(0, .p (.lst (b.map byteRow))), (7, i64 4), (8, u64 (valN (b.take i))), (9, i64 (i : Nat))]) (fun _ => H) (fun i => i ≤ 4) (fun i => 4 - i) ?_ 0 (Nat.zero_le _)
  intro i hi ih
  rcases Nat.lt_or_ge i 4 with hil | hil
  · obtain ⟨c, hc⟩ : ∃ c, b[i]? = some c := ⟨_, List.getElem?_eq_getElem (by omega)⟩
    have hri : Ab.rowAt (b.map byteRow) (i : Int).toNat = byteRow c := rowAt_map hc
    have hrp : 0 ≤ (i : Int) ∧ (i : Int) < (b.map byteRow).length ∧ (Ab.rowAt (b.map byteRow) (i : Int).toNat).length = 1 := ⟨by omega, by omega, by rw [hri]; rfl⟩
    have hw8 : IntKind.u64.wrap (8 * IntKind.u64.wrap (i : Int)) = ((8 * i : Nat) : Int) := by
      rw [wrapU64 (n := i) (by omega), show (8 * (i : Int)) = ((8 * i : Nat) : Int) by omega, wrapU64 (by omega)]
    have hsh : 0 ≤ IntKind.u64.wrap (8 * IntKind.u64.wrap (i : Int)) := by rw [hw8]; omega
    have hcl := c.toNat_lt
    have hli : (b.take i).length = i := by rw [List.length_take]; omega
    have hp24 : 2 ^ (8 * i) * c.toNat < 4294967296 := by
      have : i = 0 ∨ i = 1 ∨ i = 2 ∨ i = 3 := by omega
      rcases this with rfl | rfl | rfl | rfl <;> simp <;> omega
    have hv : valN (b.take i) < 4294967296 := by
      have h1 := valN_lt (b.take i)
      rw [hli] at h1
      have : i = 0 ∨ i = 1 ∨ i = 2 ∨ i = 3 := by omega
      rcases this with rfl | rfl | rfl | rfl <;> simp at h1 ⊢ <;> omega
    have hin : IntKind.u64.wrap (IntKind.u64.wrap (c.toNat : Int) * 2 ^ (min (IntKind.u64.wrap (8 * IntKind.u64.wrap (i : Int))).toNat IntKind.u64.bits)) = ((2 ^ (8 * i) * c.toNat : Nat) : Int) := by
      have e2 : min ((8 * i : Nat) : Int).toNat IntKind.u64.bits = 8 * i := by
        have : IntKind.u64.bits = 64 := rfl
        rw [this]; omega
      rw [wrapU64 (n := c.toNat) (by omega), hw8, e2]
      have e3 : ((c.toNat : Int) * 2 ^ (8 * i)) = ((2 ^ (8 * i) * c.toNat : Nat) : Int) := by rw [Int.natCast_mul, Int.natCast_pow, Int.mul_comm]; rfl
      rw [e3]
      exact wrapU64 (by omega)
    have hor := or64 (a := valN (b.take i)) (b := 2 ^ (8 * i) * c.toNat) (by omega) (by omega)
    have hst : valN (b.take (i + 1)) = valN (b.take i) ||| 2 ^ (8 * i) * c.toNat := by
      rw [List.take_add_one, hc]
      have := valN_or (b.take i) c
      rw [hli] at this
      exact this.symm
    refine Run.walk hm Try.func62 100 ?_
    repeat' (first
      | ((with_reducible apply Onw.mk); conv => whnf)
      | (with_reducible first | apply Br.tt | apply Br.ff | apply Br.no)
      | ((with_reducible apply Br.t); · assumption)
      | ((with_reducible apply Br.f); · assumption)
      | ((with_reducible apply Br.dt); · exact ab_known)
      | ((with_reducible apply Br.df); · exact ab_known)
      | (with_reducible first | refine Br.dec (fun hc => ?_) (fun hc => ?_) | refine Br.mk (fun hc => ?_) (fun hc => ?_))
      | (refine PreP.mk hrp ?_)
      | (refine EqP.mk hri ?_)
      | ((with_reducible first | apply NeedRows.mk | apply NeedMap.mk | apply NeedIter.mk); · exact ab_look)
      | ((with_reducible apply NeedLen.mk); · first | assumption | rfl)
      | ((with_reducible apply NeedRow.mk); · exact ab_lookR)
      | ((with_reducible apply DrawG.mk (List.replicate 60 false)); · decide +kernel)
      | (with_reducible first | refine NewP.mk (fun id hid => ?_) | refine NilP.mk (fun e he => ?_))
      | (with_reducible first | exact trivial | exact And.intro rfl rfl)
      | ((with_reducible apply PreP.mk); · exact ab_asked)
      | refine Exists.intro _ (PreP.mk (bytesOf_lst _) ?_)
      | refine PreP.mk (lenD_lst _) ?_
      | (with_reducible first | refine PreP.mk ?_ ?_ | refine BothP.mk ?_ ?_)
      | ((with_reducible apply AncOr.anc); · decide +kernel)
      | with_reducible refine AncOr.go ?_)
    refine Run.keep _ ?_ (ih (i + 1) (by omega) (by omega))
    rw [hst, hin]
    exact ⟨rfl, rfl, congrArg (fun x => some (D.p (.int .u64 x))) hor, slot64 (by omega) (by omega) (by omega), trivial⟩
  · obtain rfl : i = 4 := by omega
    refine Run.walk hm Try.func62 100 ?_
    repeat' (first
      | ((with_reducible apply Onw.mk); conv => whnf)
      | (with_reducible first | apply Br.tt | apply Br.ff | apply Br.no)
      | ((with_reducible apply Br.t); · assumption)
      | ((with_reducible apply Br.f); · assumption)
      | ((with_reducible apply Br.dt); · exact ab_known)
      | ((with_reducible apply Br.df); · exact ab_known)
      | (with_reducible first | refine Br.dec (fun hc => ?_) (fun hc => ?_) | refine Br.mk (fun hc => ?_) (fun hc => ?_))
      | (refine PreP.mk hps2 ?_)
      | ((with_reducible first | apply NeedRows.mk | apply NeedMap.mk | apply NeedIter.mk); · exact ab_look)
      | ((with_reducible apply NeedLen.mk); · first | assumption | rfl)
      | ((with_reducible apply NeedRow.mk); · exact ab_lookR)
      | ((with_reducible apply DrawG.mk (List.replicate 60 false)); · decide +kernel)
      | (with_reducible first | refine NewP.mk (fun id hid => ?_) | refine NilP.mk (fun e he => ?_))
      | (with_reducible first | exact trivial | exact And.intro rfl rfl)
      | ((with_reducible apply PreP.mk); · exact ab_asked)
      | refine Exists.intro _ (PreP.mk (bytesOf_lst _) ?_)
      | refine PreP.mk (lenD_lst _) ?_
      | (with_reducible first | refine PreP.mk ?_ ?_ | refine BothP.mk ?_ ?_)
      | ((with_reducible apply AncOr.anc); · decide +kernel)
      | with_reducible refine AncOr.go ?_)
    refine ⟨rfl, ?_⟩
    unfold getR2
    rw [if_neg (by omega)]
    have e : List.drop (4 : Int).toNat (List.take (((b.map byteRow).length : Int)).toNat (b.map byteRow)) = (b.drop 4).map byteRow := by
      rw [Int.toNat_natCast, List.take_length, List.map_drop]; rfl
    simp only [mkRes]
    exact congrArg (fun x => D.tup [u64 (valN (b.take 4)), .p (.lst x), boolD true]) e
end Go.Proofs.Ytanknokhbfijdaa
