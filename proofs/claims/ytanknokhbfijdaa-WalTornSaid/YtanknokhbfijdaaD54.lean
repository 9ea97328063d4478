/- What functions of the disk, and of the laws over it, do. Conditions: those that each theorem names. -/
import Derived.Test.YtanknokhbfijdaaD52
import Derived.Test.YtanknokhbfijdaaD53
set_option linter.unusedVariables false
set_option linter.unusedSimpArgs false
namespace Go.Proofs.Ytanknokhbfijdaa
open Go.Ab
set_option maxRecDepth 100000
set_option maxHeartbeats 1000000
attribute [local irreducible] Run CallOK DetCall Br PreP BothP AncOr Onw NeedRows NeedMap NeedRow NeedLen NilP NeedIter RoundP EntryP EqP OptP NewP NewSlice NewMade AppTo DrawG anc drawB
theorem s12 (l : List (List UInt8)) (wh at_ : Nat) (w : UInt8) (hwh : wh < 256) (hat : at_ < 65536) : Ab.Spec Try.prog 12 [.p (.lst (l.map strRow)), .p (.int .u8 wh), .p (.int .u16 at_), .p (.int .u8 w.toNat)] [] (fun r _ => r = boolD true) := by
  have hll : ((l.map strRow).length : Int) = l.length := by simp
  refine Ab.Spec.walk hm Try.func12 (by kernel_rfl) 300 ?_
  repeat' (first
    | ((with_reducible apply Onw.mk); conv => whnf)
    | (with_reducible first | apply Br.tt | apply Br.ff | apply Br.no)
    | ((with_reducible apply Br.t); · assumption)
    | ((with_reducible apply Br.f); · assumption)
    | ((with_reducible apply Br.dt); · exact ab_known)
    | ((with_reducible apply Br.df); · exact ab_known)
    | (with_reducible first | refine Br.dec (fun hc => ?_) (fun hc => ?_) | refine Br.mk (fun hc => ?_) (fun hc => ?_))
    | ((with_reducible first | apply NeedRows.mk | apply NeedMap.mk | apply NeedIter.mk); · exact ab_look)
    | ((with_reducible apply NeedLen.mk); · first | assumption | rfl)
    | ((with_reducible apply NeedRow.mk); · exact ab_lookR)
    | ((with_reducible apply DrawG.mk (List.replicate 60 false)); · decide +kernel)
    | (with_reducible first | refine NewP.mk (fun id hid => ?_) | refine NilP.mk (fun e he => ?_))
    | (with_reducible first | exact trivial | exact And.intro rfl rfl)
    | ((with_reducible apply PreP.mk); · exact ab_asked)
    | refine Exists.intro _ (PreP.mk (bytesOf_lst _) ?_)
    | refine PreP.mk (lenD_lst _) ?_
    | (with_reducible first | refine PreP.mk ?_ ?_ | refine BothP.mk ?_ ?_)
    | ((with_reducible apply AncOr.anc); · decide +kernel)
    | with_reducible refine AncOr.go ?_)
  refine CallOK.go (c35 _) (fun r H0 hr => ?_)
  obtain ⟨rfl, rfl⟩ := hr
  repeat' (first
    | ((with_reducible apply Onw.mk); conv => whnf)
    | (with_reducible first | apply Br.tt | apply Br.ff | apply Br.no)
    | ((with_reducible apply Br.t); · assumption)
    | ((with_reducible apply Br.f); · assumption)
    | ((with_reducible apply Br.dt); · exact ab_known)
    | ((with_reducible apply Br.df); · exact ab_known)
    | (with_reducible first | refine Br.dec (fun hc => ?_) (fun hc => ?_) | refine Br.mk (fun hc => ?_) (fun hc => ?_))
    | ((with_reducible first | apply NeedRows.mk | apply NeedMap.mk | apply NeedIter.mk); · exact ab_look)
    | ((with_reducible apply NeedLen.mk); · first | assumption | rfl)
    | ((with_reducible apply NeedRow.mk); · exact ab_lookR)
    | ((with_reducible apply DrawG.mk (List.replicate 60 false)); · decide +kernel)
    | (with_reducible first | refine NewP.mk (fun id hid => ?_) | refine NilP.mk (fun e he => ?_))
    | (with_reducible first | exact trivial | exact And.intro rfl rfl)
    | ((with_reducible apply PreP.mk); · exact ab_asked)
    | refine Exists.intro _ (PreP.mk (bytesOf_lst _) ?_)
    | refine PreP.mk (lenD_lst _) ?_
    | (with_reducible first | refine PreP.mk ?_ ?_ | refine BothP.mk ?_ ?_)
    | ((with_reducible apply AncOr.anc); · decide +kernel)
    | with_reducible refine AncOr.go ?_)
  · rfl
  · rfl
  · rfl
  have hl0 : l.length ≠ 0 := by omega
  have hl10 : l.length ≤ 10 := by omega
  have hw : w ≠ 0 := by rintro rfl; exact hc rfl
  obtain ⟨k, hk, hkl⟩ : ∃ k : Nat, (IntKind.i64.wrap (wh : Int)).tmod ((l.map strRow).length : Int) = (k : Int) ∧ k < l.length := by
    refine ⟨wh % l.length, ?_, Nat.mod_lt _ (by omega)⟩
    rw [hll, wrap64 (n := (wh : Int)) (by omega) (by omega), Int.tmod_eq_emod_of_nonneg (by omega)]
    simp
  refine Run.virt 9 1 rfl ?_
  refine Run.keep [(0, .p (.lst (l.map strRow))), (2, .p (.int .u16 at_)), (3, .p (.int .u8 w.toNat)), (9, .own 0 1 0 (framesL (l.take 0)).length none), (10, i64 (k : Nat)), (11, i64 (0 : Nat)), (12, i64 (0 : Nat))] ⟨rfl, rfl, rfl, rfl, congrArg (fun x => some (i64 x)) hk, rfl, rfl, trivial⟩ ?_
  refine Run.rounds (fun (i : Nat) T H2 => ∃ (id fr : Nat), T = [(0, .p (.lst (l.map strRow))), (2, .p (.int .u16 at_)), (3, .p (.int .u8 w.toNat)), (9, .own id 1 0 (framesL (l.take i)).length none), (10, i64 (k : Nat)), (11, i64 (fr : Nat)), (12, i64 (i : Nat))] ∧
    nth H2 id = some (.rows ((framesL (l.take i)).map byteRowD)) ∧ (k < i → fr = (framesL (l.take k)).length) ∧ (∀ s ∈ l.take i, 4 ≤ s.length ∧ s.length ≤ 200) ∧ i ≤ l.length) (fun i => l.length - i) ?_ (x := 0)
    ⟨0, 0, rfl, rfl, fun h => absurd h (by omega), by simp, by omega⟩
  rintro i T H2 ⟨id, fr, rfl, hrow, hfr, hsm, hi⟩ ih
  rcases Nat.lt_or_ge i l.length with hil | hil
  · obtain ⟨x, hx⟩ : ∃ x, l[i]? = some x := ⟨_, List.getElem?_eq_getElem hil⟩
    have hri : Ab.rowAt (l.map strRow) (i : Int).toNat = strRow x := rowAt_map hx
    have hrp : 0 ≤ (i : Int) ∧ (i : Int) < (l.map strRow).length ∧ (Ab.rowAt (l.map strRow) (i : Int).toNat).length = 1 := ⟨by omega, by omega, by rw [hri]; rfl⟩
    have hfs := framesL_succ hx
    have hsm' : 4 ≤ x.length ∧ x.length ≤ 200 → ∀ s ∈ l.take (i + 1), 4 ≤ s.length ∧ s.length ≤ 200 := by
      intro hxl s hs
      rw [List.take_add_one, hx] at hs
      rcases List.mem_append.1 hs with h | h
      · exact hsm s h
      · simp at h; rw [h]; exact hxl
    have hfl0 : (framesL (l.take i)).length ≤ 12 * 308 := by
      have := framesL_small _ (fun s hs => Nat.le_trans (hsm s hs).2 (by decide))
      rw [List.length_take] at this; omega
    have hnn : (framesL (l.take (i + 1))).length = (framesL (l.take i)).length + (((frameL x).map byteRow).map (·.map D.p)).length := by
      rw [hfs, List.length_append]; simp
    have e7 : (List.take (framesL (l.take i)).length (List.drop 0 (List.map byteRowD (framesL (l.take i)))) ++ ((frameL x).map byteRow).map (·.map D.p)) = (framesL (l.take (i + 1))).map byteRowD := by
      rw [List.drop_zero, List.take_of_length_le (by rw [List.length_map]; exact Nat.le_refl _), rows_app', hfs]
    rcases Classical.em ((i : Int) = k) with hik | hik
    · skip
      refine Run.walk hm Try.func12 300 ?_
      repeat' (first
        | ((with_reducible apply Onw.mk); conv => whnf)
        | (with_reducible first | apply Br.tt | apply Br.ff | apply Br.no)
        | ((with_reducible apply Br.t); · assumption)
        | ((with_reducible apply Br.f); · assumption)
        | ((with_reducible apply Br.dt); · exact ab_known)
        | ((with_reducible apply Br.df); · exact ab_known)
        | (with_reducible first | refine Br.dec (fun hc => ?_) (fun hc => ?_) | refine Br.mk (fun hc => ?_) (fun hc => ?_))
        | (refine PreP.mk hrp ?_)
        | (refine EqP.mk hri ?_)
        | ((with_reducible first | apply NeedRows.mk | apply NeedMap.mk | apply NeedIter.mk); · exact ab_look)
        | ((with_reducible apply NeedLen.mk); · first | assumption | rfl)
        | ((with_reducible apply NeedRow.mk); · exact ab_lookR)
        | ((with_reducible apply DrawG.mk (List.replicate 60 false)); · decide +kernel)
        | (with_reducible first | refine NewP.mk (fun id hid => ?_) | refine NilP.mk (fun e he => ?_))
        | (with_reducible first | exact trivial | exact And.intro rfl rfl)
        | ((with_reducible apply PreP.mk); · exact ab_asked)
        | refine Exists.intro _ (PreP.mk (bytesOf_lst _) ?_)
        | refine PreP.mk (lenD_lst _) ?_
        | (with_reducible first | refine PreP.mk ?_ ?_ | refine BothP.mk ?_ ?_)
        | ((with_reducible apply AncOr.anc); · decide +kernel)
        | with_reducible refine AncOr.go ?_)
      · rfl
      · rfl
      refine CallOK.go (c38 _ x (by omega)) (fun r H3 hr => ?_)
      obtain ⟨rfl, rfl⟩ := hr
      rw [if_neg (by omega)]
      repeat' (first
        | ((with_reducible apply Onw.mk); conv => whnf)
        | (with_reducible first | apply Br.tt | apply Br.ff | apply Br.no)
        | ((with_reducible apply Br.t); · assumption)
        | ((with_reducible apply Br.f); · assumption)
        | ((with_reducible apply Br.dt); · exact ab_known)
        | ((with_reducible apply Br.df); · exact ab_known)
        | (with_reducible first | refine Br.dec (fun hc => ?_) (fun hc => ?_) | refine Br.mk (fun hc => ?_) (fun hc => ?_))
        | ((with_reducible first | apply NeedRows.mk | apply NeedMap.mk | apply NeedIter.mk); · exact ab_look)
        | ((with_reducible apply NeedLen.mk); · first | assumption | rfl)
        | ((with_reducible apply NeedRow.mk); · exact ab_lookR)
        | ((with_reducible apply DrawG.mk (List.replicate 60 false)); · decide +kernel)
        | (with_reducible first | refine NewP.mk (fun id hid => ?_) | refine NilP.mk (fun e he => ?_))
        | (with_reducible first | exact trivial | exact And.intro rfl rfl)
        | ((with_reducible apply PreP.mk); · exact ab_asked)
        | refine Exists.intro _ (PreP.mk (bytesOf_lst _) ?_)
        | refine PreP.mk (lenD_lst _) ?_
        | (with_reducible first | refine PreP.mk ?_ ?_ | refine BothP.mk ?_ ?_)
        | ((with_reducible apply AncOr.anc); · decide +kernel)
        | with_reducible refine AncOr.go ?_)
      · exact appPre5 _ 0 _ _ (by rw [frameL_len]; omega) (by omega) (by simp)
      refine AppTo.new (fun id7 hid7 => ?_)
      repeat' (first
        | ((with_reducible apply Onw.mk); conv => whnf)
        | (with_reducible first | apply Br.tt | apply Br.ff | apply Br.no)
        | ((with_reducible apply Br.t); · assumption)
        | ((with_reducible apply Br.f); · assumption)
        | ((with_reducible apply Br.dt); · exact ab_known)
        | ((with_reducible apply Br.df); · exact ab_known)
        | (with_reducible first | refine Br.dec (fun hc => ?_) (fun hc => ?_) | refine Br.mk (fun hc => ?_) (fun hc => ?_))
        | ((with_reducible first | apply NeedRows.mk | apply NeedMap.mk | apply NeedIter.mk); · exact ab_look)
        | ((with_reducible apply NeedLen.mk); · first | assumption | rfl)
        | ((with_reducible apply NeedRow.mk); · exact ab_lookR)
        | ((with_reducible apply DrawG.mk (List.replicate 60 false)); · decide +kernel)
        | (with_reducible first | refine NewP.mk (fun id hid => ?_) | refine NilP.mk (fun e he => ?_))
        | (with_reducible first | exact trivial | exact And.intro rfl rfl)
        | ((with_reducible apply PreP.mk); · exact ab_asked)
        | refine Exists.intro _ (PreP.mk (bytesOf_lst _) ?_)
        | refine PreP.mk (lenD_lst _) ?_
        | (with_reducible first | refine PreP.mk ?_ ?_ | refine BothP.mk ?_ ?_)
        | ((with_reducible apply AncOr.anc); · decide +kernel)
        | with_reducible refine AncOr.go ?_)
      rw [e7]
      refine Run.keep _ ?_ (ih (i + 1) _ _ (by omega) ⟨id7, (framesL (l.take i)).length, rfl, nth_new (by rw [hid7, setN_length]), ?_, hsm' ⟨by omega, by omega⟩, by omega⟩)
      · exact ⟨rfl, rfl, rfl, congrArg (fun n => some (D.own id7 1 0 n none)) hnn.symm, rfl, rfl, slot64 (by omega) (by omega) (by omega), trivial⟩
      · intro _; rw [show k = i by omega]
    · skip
      refine Run.walk hm Try.func12 300 ?_
      repeat' (first
        | ((with_reducible apply Onw.mk); conv => whnf)
        | (with_reducible first | apply Br.tt | apply Br.ff | apply Br.no)
        | ((with_reducible apply Br.t); · assumption)
        | ((with_reducible apply Br.f); · assumption)
        | ((with_reducible apply Br.dt); · exact ab_known)
        | ((with_reducible apply Br.df); · exact ab_known)
        | (with_reducible first | refine Br.dec (fun hc => ?_) (fun hc => ?_) | refine Br.mk (fun hc => ?_) (fun hc => ?_))
        | (refine PreP.mk hrp ?_)
        | (refine EqP.mk hri ?_)
        | ((with_reducible first | apply NeedRows.mk | apply NeedMap.mk | apply NeedIter.mk); · exact ab_look)
        | ((with_reducible apply NeedLen.mk); · first | assumption | rfl)
        | ((with_reducible apply NeedRow.mk); · exact ab_lookR)
        | ((with_reducible apply DrawG.mk (List.replicate 60 false)); · decide +kernel)
        | (with_reducible first | refine NewP.mk (fun id hid => ?_) | refine NilP.mk (fun e he => ?_))
        | (with_reducible first | exact trivial | exact And.intro rfl rfl)
        | ((with_reducible apply PreP.mk); · exact ab_asked)
        | refine Exists.intro _ (PreP.mk (bytesOf_lst _) ?_)
        | refine PreP.mk (lenD_lst _) ?_
        | (with_reducible first | refine PreP.mk ?_ ?_ | refine BothP.mk ?_ ?_)
        | ((with_reducible apply AncOr.anc); · decide +kernel)
        | with_reducible refine AncOr.go ?_)
      · rfl
      · rfl
      refine CallOK.go (c38 _ x (by omega)) (fun r H3 hr => ?_)
      obtain ⟨rfl, rfl⟩ := hr
      rw [if_neg (by omega)]
      repeat' (first
        | ((with_reducible apply Onw.mk); conv => whnf)
        | (with_reducible first | apply Br.tt | apply Br.ff | apply Br.no)
        | ((with_reducible apply Br.t); · assumption)
        | ((with_reducible apply Br.f); · assumption)
        | ((with_reducible apply Br.dt); · exact ab_known)
        | ((with_reducible apply Br.df); · exact ab_known)
        | (with_reducible first | refine Br.dec (fun hc => ?_) (fun hc => ?_) | refine Br.mk (fun hc => ?_) (fun hc => ?_))
        | ((with_reducible first | apply NeedRows.mk | apply NeedMap.mk | apply NeedIter.mk); · exact ab_look)
        | ((with_reducible apply NeedLen.mk); · first | assumption | rfl)
        | ((with_reducible apply NeedRow.mk); · exact ab_lookR)
        | ((with_reducible apply DrawG.mk (List.replicate 60 false)); · decide +kernel)
        | (with_reducible first | refine NewP.mk (fun id hid => ?_) | refine NilP.mk (fun e he => ?_))
        | (with_reducible first | exact trivial | exact And.intro rfl rfl)
        | ((with_reducible apply PreP.mk); · exact ab_asked)
        | refine Exists.intro _ (PreP.mk (bytesOf_lst _) ?_)
        | refine PreP.mk (lenD_lst _) ?_
        | (with_reducible first | refine PreP.mk ?_ ?_ | refine BothP.mk ?_ ?_)
        | ((with_reducible apply AncOr.anc); · decide +kernel)
        | with_reducible refine AncOr.go ?_)
      · exact appPre5 _ 0 _ _ (by rw [frameL_len]; omega) (by omega) (by simp)
      refine AppTo.new (fun id7 hid7 => ?_)
      repeat' (first
        | ((with_reducible apply Onw.mk); conv => whnf)
        | (with_reducible first | apply Br.tt | apply Br.ff | apply Br.no)
        | ((with_reducible apply Br.t); · assumption)
        | ((with_reducible apply Br.f); · assumption)
        | ((with_reducible apply Br.dt); · exact ab_known)
        | ((with_reducible apply Br.df); · exact ab_known)
        | (with_reducible first | refine Br.dec (fun hc => ?_) (fun hc => ?_) | refine Br.mk (fun hc => ?_) (fun hc => ?_))
        | ((with_reducible first | apply NeedRows.mk | apply NeedMap.mk | apply NeedIter.mk); · exact ab_look)
        | ((with_reducible apply NeedLen.mk); · first | assumption | rfl)
        | ((with_reducible apply NeedRow.mk); · exact ab_lookR)
        | ((with_reducible apply DrawG.mk (List.replicate 60 false)); · decide +kernel)
        | (with_reducible first | refine NewP.mk (fun id hid => ?_) | refine NilP.mk (fun e he => ?_))
        | (with_reducible first | exact trivial | exact And.intro rfl rfl)
        | ((with_reducible apply PreP.mk); · exact ab_asked)
        | refine Exists.intro _ (PreP.mk (bytesOf_lst _) ?_)
        | refine PreP.mk (lenD_lst _) ?_
        | (with_reducible first | refine PreP.mk ?_ ?_ | refine BothP.mk ?_ ?_)
        | ((with_reducible apply AncOr.anc); · decide +kernel)
        | with_reducible refine AncOr.go ?_)
      rw [e7]
      refine Run.keep _ ?_ (ih (i + 1) _ _ (by omega) ⟨id7, fr, rfl, nth_new (by rw [hid7, setN_length]), ?_, hsm' ⟨by omega, by omega⟩, by omega⟩)
      · exact ⟨rfl, rfl, rfl, congrArg (fun n => some (D.own id7 1 0 n none)) hnn.symm, rfl, rfl, slot64 (by omega) (by omega) (by omega), trivial⟩
      · intro hki; exact hfr (by omega)
  · obtain rfl : i = l.length := by omega
    rw [List.take_length] at hrow hsm
    rw [List.take_length]
    have hfr' := hfr hkl
    subst hfr'
    have hfl : (framesL l).length ≤ 12 * 308 := by
      have := framesL_small _ (fun s hs => Nat.le_trans (hsm s hs).2 (by decide)); omega
    obtain ⟨s, hs⟩ : ∃ s, l[k]? = some s := ⟨_, List.getElem?_eq_getElem hkl⟩
    have hsl := hsm s (List.mem_of_getElem? hs)
    have hsl0 : s.length ≠ 0 := by omega
    have hj := Nat.mod_lt at_ (show 0 < s.length by omega)
    obtain ⟨x, hx⟩ : ∃ x, s[at_ % s.length]? = some x := ⟨_, List.getElem?_eq_getElem hj⟩
    have hri : Ab.rowAt (l.map strRow) (k : Int).toNat = strRow s := rowAt_map hs
    have hrp : 0 ≤ (k : Int) ∧ (k : Int) < (l.map strRow).length ∧ (Ab.rowAt (l.map strRow) (k : Int).toNat).length = 1 := ⟨by omega, by omega, by rw [hri]; rfl⟩
    obtain ⟨hbx, hsc1, hsc2⟩ := scanL_turned l k (at_ % s.length) s x w (fun s hs => Nat.le_trans (hsm s hs).2 (by decide)) hs hx hw
    have hbl : (framesL (l.take k)).length + 8 + at_ % s.length < (framesL l).length := by
      obtain ⟨h, _⟩ := List.getElem?_eq_some_iff.1 hbx; exact h
    have hidx : IntKind.i64.wrap (IntKind.i64.wrap (((framesL (l.take k)).length : Int) + 8) + (IntKind.i64.wrap (at_ : Int)).tmod (s.length : Int)) = (((framesL (l.take k)).length + 8 + at_ % s.length : Nat) : Int) := by
      rw [wrap64 (n := (at_ : Int)) (by omega) (by omega), Int.tmod_eq_emod_of_nonneg (by omega), wrap64 (n := ((framesL (l.take k)).length : Int) + 8) (by omega) (by omega)]
      have : (at_ : Int) % (s.length : Int) = ((at_ % s.length : Nat) : Int) := by simp
      rw [this, wrap64 (by omega) (by omega)]; omega
    have hrd : nth (List.map byteRowD (framesL l)) (0 + (IntKind.i64.wrap (IntKind.i64.wrap (((framesL (l.take k)).length : Int) + 8) + (IntKind.i64.wrap (at_ : Int)).tmod (s.length : Int))).toNat) = some (byteRowD x) := by
      rw [nth_eq, hidx, Int.toNat_natCast, Nat.zero_add, List.getElem?_map, hbx]; rfl
    have hset : setN (List.map byteRowD (framesL l)) (0 + (IntKind.i64.wrap (IntKind.i64.wrap (((framesL (l.take k)).length : Int) + 8) + (IntKind.i64.wrap (at_ : Int)).tmod (s.length : Int))).toNat)
        [D.p (P.int IntKind.u8 (IntKind.u8.wrap ((BitVec.ofInt IntKind.u8.bits (x.toNat : Int) ^^^ BitVec.ofInt IntKind.u8.bits (w.toNat : Int)).toNat : Int)))] =
        ((framesL l).set ((framesL (l.take k)).length + 8 + at_ % s.length) (x ^^^ w)).map byteRowD := by
      rw [hidx, Int.toNat_natCast, Nat.zero_add, setN_eq, List.map_set, xor8 (by have := x.toNat_lt; omega) (by have := w.toNat_lt; omega)]
      unfold byteRowD
      rw [UInt8.toNat_xor]
    have hfrom : (framesL (l.take k)).length ≤ (framesL l).length := by omega
    have en : List.drop (Int.toNat 0) (List.take (k : Int).toNat (l.map strRow)) = (l.take k).map strRow := by simp [List.map_take]
    refine Run.walk hm Try.func12 300 ?_
    repeat' (first
      | ((with_reducible apply Onw.mk); conv => whnf)
      | (with_reducible first | apply Br.tt | apply Br.ff | apply Br.no)
      | ((with_reducible apply Br.t); · assumption)
      | ((with_reducible apply Br.f); · assumption)
      | ((with_reducible apply Br.dt); · exact ab_known)
      | ((with_reducible apply Br.df); · exact ab_known)
      | (with_reducible first | refine Br.dec (fun hc => ?_) (fun hc => ?_) | refine Br.mk (fun hc => ?_) (fun hc => ?_))
      | (refine PreP.mk hrp ?_)
      | (refine EqP.mk hri ?_)
      | ((with_reducible first | apply NeedRows.mk | apply NeedMap.mk | apply NeedIter.mk); · exact ab_look)
      | ((with_reducible apply NeedLen.mk); · first | assumption | rfl)
      | ((with_reducible apply NeedRow.mk); · exact ab_lookR)
      | ((with_reducible apply DrawG.mk (List.replicate 60 false)); · decide +kernel)
      | (with_reducible first | refine NewP.mk (fun id hid => ?_) | refine NilP.mk (fun e he => ?_))
      | (with_reducible first | exact trivial | exact And.intro rfl rfl)
      | ((with_reducible apply PreP.mk); · exact ab_asked)
      | refine Exists.intro _ (PreP.mk (bytesOf_lst _) ?_)
      | refine PreP.mk (lenD_lst _) ?_
      | (with_reducible first | refine PreP.mk ?_ ?_ | refine BothP.mk ?_ ?_)
      | ((with_reducible apply AncOr.anc); · decide +kernel)
      | with_reducible refine AncOr.go ?_)
    rw [hset]
    refine CallOK.frzB (pre := []) (post := []) ((framesL l).set ((framesL (l.take k)).length + 8 + at_ % s.length) (x ^^^ w)) (nth_setN_same hrow) (by rw [List.take_of_length_le (by simp)]) (by simp) ?_
    refine CallOK.go (c36 _ _ (by rw [List.length_set]; omega)) (fun r H3 hr => ?_)
    obtain ⟨rfl, rfl⟩ := hr
    rw [hsc1, List.length_set, show (framesL l).length - (scanL ((framesL l).set ((framesL (l.take k)).length + 8 + at_ % s.length) (x ^^^ w))).2.length = (framesL (l.take k)).length by omega]
    repeat' (first
      | ((with_reducible apply Onw.mk); conv => whnf)
      | (with_reducible first | apply Br.tt | apply Br.ff | apply Br.no)
      | ((with_reducible apply Br.t); · assumption)
      | ((with_reducible apply Br.f); · assumption)
      | ((with_reducible apply Br.dt); · exact ab_known)
      | ((with_reducible apply Br.df); · exact ab_known)
      | (with_reducible first | refine Br.dec (fun hc => ?_) (fun hc => ?_) | refine Br.mk (fun hc => ?_) (fun hc => ?_))
      | ((with_reducible first | apply NeedRows.mk | apply NeedMap.mk | apply NeedIter.mk); · exact ab_look)
      | ((with_reducible apply NeedLen.mk); · first | assumption | rfl)
      | ((with_reducible apply NeedRow.mk); · exact ab_lookR)
      | ((with_reducible apply DrawG.mk (List.replicate 60 false)); · decide +kernel)
      | (with_reducible first | refine NewP.mk (fun id hid => ?_) | refine NilP.mk (fun e he => ?_))
      | (with_reducible first | exact trivial | exact And.intro rfl rfl)
      | ((with_reducible apply PreP.mk); · exact ab_asked)
      | refine Exists.intro _ (PreP.mk (bytesOf_lst _) ?_)
      | refine PreP.mk (lenD_lst _) ?_
      | (with_reducible first | refine PreP.mk ?_ ?_ | refine BothP.mk ?_ ?_)
      | ((with_reducible apply AncOr.anc); · decide +kernel)
      | with_reducible refine AncOr.go ?_)
    · exact ⟨by omega, by omega, by omega, fun r hr => by obtain ⟨y, _, rfl⟩ := List.mem_map.1 hr; rfl⟩
    rw [en]
    refine CallOK.go (c40 _ (l.take k) (l.take k) (by rw [List.length_take]; omega)) (fun r H3 hr => ?_)
    obtain ⟨rfl, rfl⟩ := hr
    repeat' (first
      | ((with_reducible apply Onw.mk); conv => whnf)
      | (with_reducible first | apply Br.tt | apply Br.ff | apply Br.no)
      | ((with_reducible apply Br.t); · assumption)
      | ((with_reducible apply Br.f); · assumption)
      | ((with_reducible apply Br.dt); · exact ab_known)
      | ((with_reducible apply Br.df); · exact ab_known)
      | (with_reducible first | refine Br.dec (fun hc => ?_) (fun hc => ?_) | refine Br.mk (fun hc => ?_) (fun hc => ?_))
      | ((with_reducible first | apply NeedRows.mk | apply NeedMap.mk | apply NeedIter.mk); · exact ab_look)
      | ((with_reducible apply NeedLen.mk); · first | assumption | rfl)
      | ((with_reducible apply NeedRow.mk); · exact ab_lookR)
      | ((with_reducible apply DrawG.mk (List.replicate 60 false)); · decide +kernel)
      | (with_reducible first | refine NewP.mk (fun id hid => ?_) | refine NilP.mk (fun e he => ?_))
      | (with_reducible first | exact trivial | exact And.intro rfl rfl)
      | ((with_reducible apply PreP.mk); · exact ab_asked)
      | refine Exists.intro _ (PreP.mk (bytesOf_lst _) ?_)
      | refine PreP.mk (lenD_lst _) ?_
      | (with_reducible first | refine PreP.mk ?_ ?_ | refine BothP.mk ?_ ?_)
      | ((with_reducible apply AncOr.anc); · decide +kernel)
      | with_reducible refine AncOr.go ?_)
    exact congrArg boolD (decide_eq_true rfl)
end Go.Proofs.Ytanknokhbfijdaa
