/- What functions of the receiver, of labels, rows, batches, and of the laws over them, do. Conditions: those that each theorem names. -/
import Derived.Test.YtjlhkbikconboaaQ22
set_option linter.unusedVariables false
set_option linter.unusedSimpArgs false
namespace Go.Proofs.Ytjlhkbikconboaa
open Go.Ab
set_option maxRecDepth 100000
set_option maxHeartbeats 1000000
attribute [local irreducible] Run CallOK DetCall Br PreP BothP AncOr Onw NeedRows NeedMap NeedRow NeedLen NilP NeedIter RoundP EntryP EqP OptP NewP NewSlice NewMade AppTo DrawG anc drawB
noncomputable def markV (keys : List Int) (low : Int) : Int := Classical.epsilon fun m => MarkIs keys low m
theorem markV_eq {keys : List Int} {low m : Int} (h : MarkIs keys low m) : m = markV keys low := h.eq (Classical.epsilon_spec (p := fun m => MarkIs keys low m) ⟨m, h⟩)
theorem MarkIs.congr {k1 k2 : List Int} {low m : Int} (h : ∀ j, j ∈ k1 ↔ j ∈ k2) (hm : MarkIs k1 low m) : MarkIs k2 low m := by
  rcases hm with q | ⟨q1, q2⟩
  · exact .inl q
  · exact .inr ⟨q1, q2.congr h⟩
theorem c11d {H : Heap} {r mid : Nat} {low : Int} {l : List Bt} {bs : List Nat} {ck : Nat} (h : RcG H r mid low l bs ck) (hlow : 0 ≤ low) (hlow2 : low ≤ 9223372036854775807) :
    CallOK Try.prog 11 [.ptr r 0 0] H (fun r H' => r = i64 (markV (l.map (·.seq)) low) ∧ H' = H) :=
  (c11g h hlow hlow2).mono fun r H' hr => by obtain ⟨⟨m, rfl, hm⟩, e⟩ := hr; exact ⟨by rw [markV_eq hm], e⟩
theorem c12d (H : Heap) (m : Nat) (l : List Bt) (low : Int) (h : DocAt H m (allB l) low) (hL : (allB l).length ≤ 1000000) (hlow : 0 ≤ low) (hlow2 : low ≤ 9223372036854775807) (hkp : ∀ k ∈ l.map (·.seq), 0 < k ∧ k ≤ 9223372036854775807) (he : low = 0 → l = []) :
    CallOK Try.prog 12 [.ptr m 0 0] H (fun r H' => r = i64 (markV (l.map (·.seq)) low) ∧ H' = H) :=
  (c12 H m (allB l) low h hL hlow hlow2 (fun k hk => hkp k ((all_keys k).1 hk)) (fun e => by rw [he e]; simp [allB])).mono fun r H' hr => by
    obtain ⟨⟨k, rfl, hk⟩, e⟩ := hr
    exact ⟨by rw [markV_eq (hk.congr all_keys)], e⟩
theorem allB_len (l : List Bt) : (allB l).length = l.length := by
  have := congrArg List.length (allB_map l)
  rw [List.length_map, List.length_mergeSort, List.length_map] at this
  exact this
instance : Inhabited Bt := ⟨⟨0, 0, [], []⟩⟩
def letR (x : Bt × Int) : List P := letRow x.1 x.2
theorem open_letters {H : Type} {enc : TypeId × Value → H} {W : World} {base : Nat} {v : Value} {d : DataW H} {p : List MemPlace} (hok : Value.okWide Try.prog W .any base 22 v) (h : DataW.Trod enc Try.prog W 0 (fun _ => true) true 22 v d p) :
    ∃ l : List (Bt × Int), (l.length ≤ 9223372036854775807 ∧ ∀ x ∈ l, WideB x.1) ∧ RdD (memOf W) [] (.p (.lst (l.map letR))) v := by
  obtain ⟨fuel, hf⟩ := h
  obtain ⟨l, v', hv, h1, h2, h3⟩ := open_sliceL (row := letR) (Good := fun x => WideB x.1) Try.underlying22 cells34 (by decide) (fun _ => rfl) (fun fuel cs x h => by
    obtain ⟨b, lo, hb, hr⟩ := o_letter h
    exact ⟨(b, lo), hb, hr⟩) hf
  obtain ⟨ao, len, cap, rfl⟩ := Go.WideShapes.okWide_slice Try.underlying22 hok
  simp [Value.cells] at hv
  subst hv
  exact ⟨l, ⟨h1, h2⟩, .p h3⟩
theorem seq_unique {l : List Bt} (hn : (l.map (·.seq)).Nodup) {a b : Bt} (ha : a ∈ l) (hb : b ∈ l) (h : a.seq = b.seq) : a = b := by
  have h1 := find_seq hn ha
  have h2 := find_seq hn hb
  rw [h] at h1
  rw [h1] at h2
  cases h2; rfl
theorem s3 (H : Heap) (ls : List (Bt × Int)) (hw : ∀ x ∈ ls, WideB x.1) : Ab.Spec Try.prog 3 [.p (.lst (ls.map letR))] H (fun res _ => res = boolD true) := by
  have hll : ((ls.map letR).length : Int) = ls.length := by simp
  refine Ab.Spec.walk hm Try.func3 (by kernel_rfl) 100 ?_
  rcases Nat.lt_or_ge 40 ls.length with h40 | h40
  · have hc : (40 : Int) < ((ls.map letR).length : Int) := by rw [hll]; omega
    repeat' (first
      | ((with_reducible apply Onw.mk); conv => whnf)
      | (with_reducible first | apply Br.tt | apply Br.ff | apply Br.no)
      | ((with_reducible apply Br.t); · assumption)
      | ((with_reducible apply Br.f); · assumption)
      | ((with_reducible apply Br.dt); · exact ab_known)
      | ((with_reducible apply Br.df); · exact ab_known)
      | (with_reducible first | refine Br.dec (fun hc => ?_) (fun hc => ?_) | refine Br.mk (fun hc => ?_) (fun hc => ?_))
      | (refine CallOK.go (c7 _) (fun r2 H2 hr2 => ?_); obtain ⟨rfl, he2⟩ := hr2; rw [he2]; clear he2 H2)
      | ((with_reducible first | apply NeedRows.mk | apply NeedMap.mk | apply NeedIter.mk); · exact ab_look)
      | ((with_reducible apply NeedLen.mk); · first | assumption | rfl)
      | ((with_reducible apply NeedRow.mk); · exact ab_lookR)
      | ((with_reducible apply DrawG.mk (List.replicate 60 false)); · decide +kernel)
      | (with_reducible first | refine NewP.mk (fun id hid => ?_) | refine NilP.mk (fun e he => ?_))
      | (with_reducible first | exact trivial | exact And.intro rfl rfl)
      | ((with_reducible apply PreP.mk); · exact ab_asked)
      | refine Exists.intro _ (PreP.mk (bytesOf_lst _) ?_)
      | refine PreP.mk (lenD_lst _) ?_
      | (with_reducible first | refine PreP.mk ?_ ?_ | refine BothP.mk ?_ ?_)
      | ((with_reducible apply AncOr.anc); · decide +kernel)
      | with_reducible refine AncOr.go ?_)
    all_goals rfl
  have hc : ¬ (40 : Int) < ((ls.map letR).length : Int) := by rw [hll]; omega
  repeat' (first
    | ((with_reducible apply Onw.mk); conv => whnf)
    | (with_reducible first | apply Br.tt | apply Br.ff | apply Br.no)
    | ((with_reducible apply Br.t); · assumption)
    | ((with_reducible apply Br.f); · assumption)
    | ((with_reducible apply Br.dt); · exact ab_known)
    | ((with_reducible apply Br.df); · exact ab_known)
    | (with_reducible first | refine Br.dec (fun hc => ?_) (fun hc => ?_) | refine Br.mk (fun hc => ?_) (fun hc => ?_))
    | (refine CallOK.go (c7 _) (fun r2 H2 hr2 => ?_); obtain ⟨rfl, he2⟩ := hr2; rw [he2]; clear he2 H2)
    | ((with_reducible first | apply NeedRows.mk | apply NeedMap.mk | apply NeedIter.mk); · exact ab_look)
    | ((with_reducible apply NeedLen.mk); · first | assumption | rfl)
    | ((with_reducible apply NeedRow.mk); · exact ab_lookR)
    | ((with_reducible apply DrawG.mk (List.replicate 60 false)); · decide +kernel)
    | (with_reducible first | refine NewP.mk (fun id hid => ?_) | refine NilP.mk (fun e he => ?_))
    | (with_reducible first | exact trivial | exact And.intro rfl rfl)
    | ((with_reducible apply PreP.mk); · exact ab_asked)
    | refine Exists.intro _ (PreP.mk (bytesOf_lst _) ?_)
    | refine PreP.mk (lenD_lst _) ?_
    | (with_reducible first | refine PreP.mk ?_ ?_ | refine BothP.mk ?_ ?_)
    | ((with_reducible apply AncOr.anc); · decide +kernel)
    | with_reducible refine AncOr.go ?_)
  refine CallOK.go (s8g _) (fun r1 H1 hr1 => ?_)
  obtain ⟨r, mid, rfl, h1, hge1, hge2, x1, hx1⟩ := hr1
  have hlr := nth_lt h1.row
  have hlm := nth_lt h1.map
  repeat' (first
    | ((with_reducible apply Onw.mk); conv => whnf)
    | (with_reducible first | apply Br.tt | apply Br.ff | apply Br.no)
    | ((with_reducible apply Br.t); · assumption)
    | ((with_reducible apply Br.f); · assumption)
    | ((with_reducible apply Br.dt); · exact ab_known)
    | ((with_reducible apply Br.df); · exact ab_known)
    | (with_reducible first | refine Br.dec (fun hc => ?_) (fun hc => ?_) | refine Br.mk (fun hc => ?_) (fun hc => ?_))
    | ((with_reducible first | apply NeedRows.mk | apply NeedMap.mk | apply NeedIter.mk); · exact ab_look)
    | ((with_reducible apply NeedLen.mk); · first | assumption | rfl)
    | ((with_reducible apply NeedRow.mk); · exact ab_lookR)
    | ((with_reducible apply DrawG.mk (List.replicate 60 false)); · decide +kernel)
    | (with_reducible first | refine NewP.mk (fun id hid => ?_) | refine NilP.mk (fun e he => ?_))
    | (with_reducible first | exact trivial | exact And.intro rfl rfl)
    | ((with_reducible apply PreP.mk); · exact ab_asked)
    | refine Exists.intro _ (PreP.mk (bytesOf_lst _) ?_)
    | refine PreP.mk (lenD_lst _) ?_
    | (with_reducible first | refine PreP.mk ?_ ?_ | refine BothP.mk ?_ ?_)
    | ((with_reducible apply AncOr.anc); · decide +kernel)
    | with_reducible refine AncOr.go ?_)
  revert id
  intro dm hid
  refine Run.tellNil dm 0 0 (nth_new hid) rfl rfl ?_
  have hd1 : DocAt (setN (H1 ++ [.rows [[.p .nil, i64 0]]]) dm (.rows [[.p (.lst []), i64 0]])) dm (allB []) 0 := by
    have e : allB [] = [] := by simp [allB]
    rw [e]; exact nth_setN_same (nth_new hid)
  refine Run.keep [(0, .p (.lst (ls.map letR))), (3, .ptr r 0 0), (4, .ptr dm 0 0), (5, i64 (0 : Nat))] ⟨rfl, rfl, rfl, rfl, trivial⟩ ?_
  refine Run.rounds (fun (i : Nat) T H2 => ∃ (l : List Bt) (bs : List Nat) (ck : Nat) (low : Int), T = [(0, .p (.lst (ls.map letR))), (3, .ptr r 0 0), (4, .ptr dm 0 0), (5, i64 i)] ∧ RcG H2 r mid low l bs ck ∧ DocAt H2 dm (allB l) low ∧ 0 ≤ low ∧ low ≤ 9223372036854775807 ∧ (low = 0 → l = []) ∧ l.length ≤ i ∧ i ≤ ls.length) (fun i => ls.length - i) ?_ (x := 0)
    ⟨[], [], 0, 0, rfl, h1.keep (by rw [h1.row]; exact nth_setN_ne (by omega) (nth_app h1.row)) (by rw [h1.map]; exact nth_setN_ne (by omega) (nth_app h1.map)), hd1, Int.le_refl _, by omega, fun _ => rfl, Nat.le_refl _, Nat.zero_le _⟩
  have hne : dm ∉ [r, mid] := by simp; omega
  have hner : r ∉ [dm] := by simp; omega
  have hnem : mid ∉ [dm] := by simp; omega
  clear hd1
  rintro i T H2 ⟨l, bs, ck, low, rfl, h2, d2, hlow, hlow2, hlz, hli, hil⟩ ih
  refine Run.walk hm Try.func3 100 ?_
  rcases Nat.lt_or_ge i ls.length with hi | hi
  rotate_left
  · have hc1 : ¬ (i : Int) < ((ls.map letR).length : Int) := by rw [hll]; omega
    repeat' (first
      | ((with_reducible apply Onw.mk); conv => whnf)
      | (with_reducible first | apply Br.tt | apply Br.ff | apply Br.no)
      | ((with_reducible apply Br.t); · assumption)
      | ((with_reducible apply Br.f); · assumption)
      | ((with_reducible apply Br.dt); · exact ab_known)
      | ((with_reducible apply Br.df); · exact ab_known)
      | (with_reducible first | refine Br.dec (fun hc => ?_) (fun hc => ?_) | refine Br.mk (fun hc => ?_) (fun hc => ?_))
      | ((with_reducible first | apply NeedRows.mk | apply NeedMap.mk | apply NeedIter.mk); · exact ab_look)
      | ((with_reducible apply NeedLen.mk); · first | assumption | rfl)
      | ((with_reducible apply NeedRow.mk); · exact ab_lookR)
      | ((with_reducible apply DrawG.mk (List.replicate 60 false)); · decide +kernel)
      | (with_reducible first | refine NewP.mk (fun id hid => ?_) | refine NilP.mk (fun e he => ?_))
      | (with_reducible first | exact trivial | exact And.intro rfl rfl)
      | ((with_reducible apply PreP.mk); · exact ab_asked)
      | refine Exists.intro _ (PreP.mk (bytesOf_lst _) ?_)
      | refine PreP.mk (lenD_lst _) ?_
      | (with_reducible first | refine PreP.mk ?_ ?_ | refine BothP.mk ?_ ?_)
      | ((with_reducible apply AncOr.anc); · decide +kernel)
      | with_reducible refine AncOr.go ?_)
    all_goals rfl
  have hc1 : (i : Int) < ((ls.map letR).length : Int) := by rw [hll]; omega
  have wi : IntKind.i64.wrap ((i : Int) + 1) = ((i + 1 : Nat) : Int) := by rw [wrap64 (by omega) (by omega)]; omega
  obtain ⟨x, hx⟩ : ∃ x, ls[i]? = some x := ⟨_, List.getElem?_eq_getElem hi⟩
  obtain ⟨b, lo⟩ := x
  have hwb : WideB b := hw _ (List.mem_of_getElem? hx)
  have hri : Ab.rowAt (ls.map letR) (i : Int).toNat = letR (b, lo) := rowAt_map hx
  have hrp : (0 : Int) ≤ (i : Int) ∧ (i : Int) < ((ls.map letR).length : Int) ∧ (Ab.rowAt (ls.map letR) (i : Int).toNat).length = 5 := ⟨by omega, hc1, by rw [hri]; rfl⟩
  have hbl : ((b.rows.map rowRow).length : Int) = b.rows.length := by simp
  rcases Nat.lt_or_ge 12 b.rows.length with h12 | h12
  · have hc2 : (12 : Int) < ((b.rows.map rowRow).length : Int) := by rw [hbl]; omega
    repeat' (first
      | ((with_reducible apply Onw.mk); conv => whnf)
      | (with_reducible first | apply Br.tt | apply Br.ff | apply Br.no)
      | ((with_reducible apply Br.t); · assumption)
      | ((with_reducible apply Br.f); · assumption)
      | ((with_reducible apply Br.dt); · exact ab_known)
      | ((with_reducible apply Br.df); · exact ab_known)
      | (with_reducible first | refine Br.dec (fun hc => ?_) (fun hc => ?_) | refine Br.mk (fun hc => ?_) (fun hc => ?_))
      | (refine PreP.mk hrp ?_)
      | (refine EqP.mk hri ?_)
      | ((with_reducible first | apply NeedRows.mk | apply NeedMap.mk | apply NeedIter.mk); · exact ab_look)
      | ((with_reducible apply NeedLen.mk); · first | assumption | rfl)
      | ((with_reducible apply NeedRow.mk); · exact ab_lookR)
      | ((with_reducible apply DrawG.mk (List.replicate 60 false)); · decide +kernel)
      | (with_reducible first | refine NewP.mk (fun id hid => ?_) | refine NilP.mk (fun e he => ?_))
      | (with_reducible first | exact trivial | exact And.intro rfl rfl)
      | ((with_reducible apply PreP.mk); · exact ab_asked)
      | refine Exists.intro _ (PreP.mk (bytesOf_lst _) ?_)
      | refine PreP.mk (lenD_lst _) ?_
      | (with_reducible first | refine PreP.mk ?_ ?_ | refine BothP.mk ?_ ?_)
      | ((with_reducible apply AncOr.anc); · decide +kernel)
      | with_reducible refine AncOr.go ?_)
    all_goals rfl
  have hc2 : ¬ (12 : Int) < ((b.rows.map rowRow).length : Int) := by rw [hbl]; omega
  have hb : FitsB b := ⟨hwb.g, h12, hwb.rows.2⟩
  repeat' (first
    | ((with_reducible apply Onw.mk); conv => whnf)
    | (with_reducible first | apply Br.tt | apply Br.ff | apply Br.no)
    | ((with_reducible apply Br.t); · assumption)
    | ((with_reducible apply Br.f); · assumption)
    | ((with_reducible apply Br.dt); · exact ab_known)
    | ((with_reducible apply Br.df); · exact ab_known)
    | (with_reducible first | refine Br.dec (fun hc => ?_) (fun hc => ?_) | refine Br.mk (fun hc => ?_) (fun hc => ?_))
    | (refine PreP.mk hrp ?_)
    | (refine EqP.mk hri ?_)
    | ((with_reducible first | apply NeedRows.mk | apply NeedMap.mk | apply NeedIter.mk); · exact ab_look)
    | ((with_reducible apply NeedLen.mk); · first | assumption | rfl)
    | ((with_reducible apply NeedRow.mk); · exact ab_lookR)
    | ((with_reducible apply DrawG.mk (List.replicate 60 false)); · decide +kernel)
    | (with_reducible first | refine NewP.mk (fun id hid => ?_) | refine NilP.mk (fun e he => ?_))
    | (with_reducible first | exact trivial | exact And.intro rfl rfl)
    | ((with_reducible apply PreP.mk); · exact ab_asked)
    | refine Exists.intro _ (PreP.mk (bytesOf_lst _) ?_)
    | refine PreP.mk (lenD_lst _) ?_
    | (with_reducible first | refine PreP.mk ?_ ?_ | refine BothP.mk ?_ ?_)
    | ((with_reducible apply AncOr.anc); · decide +kernel)
    | with_reducible refine AncOr.go ?_)
  cases hlok : letterOK b lo with
  | false =>
    refine CallOK.go (CallOK.of_spec (s9gbad _ r b hb lo hlok)) (fun r2 H3 hr3 => ?_)
    obtain ⟨rfl, x3, rfl⟩ := hr3
    repeat' (first
      | ((with_reducible apply Onw.mk); conv => whnf)
      | (with_reducible first | apply Br.tt | apply Br.ff | apply Br.no)
      | ((with_reducible apply Br.t); · assumption)
      | ((with_reducible apply Br.f); · assumption)
      | ((with_reducible apply Br.dt); · exact ab_known)
      | ((with_reducible apply Br.df); · exact ab_known)
      | (with_reducible first | refine Br.dec (fun hc => ?_) (fun hc => ?_) | refine Br.mk (fun hc => ?_) (fun hc => ?_))
      | (refine PreP.mk hrp ?_)
      | (refine EqP.mk hri ?_)
      | ((with_reducible first | apply NeedRows.mk | apply NeedMap.mk | apply NeedIter.mk); · exact ab_look)
      | ((with_reducible apply NeedLen.mk); · first | assumption | rfl)
      | ((with_reducible apply NeedRow.mk); · exact ab_lookR)
      | ((with_reducible apply DrawG.mk (List.replicate 60 false)); · decide +kernel)
      | (with_reducible first | refine NewP.mk (fun id hid => ?_) | refine NilP.mk (fun e he => ?_))
      | (with_reducible first | exact trivial | exact And.intro rfl rfl)
      | ((with_reducible apply PreP.mk); · exact ab_asked)
      | refine Exists.intro _ (PreP.mk (bytesOf_lst _) ?_)
      | refine PreP.mk (lenD_lst _) ?_
      | (with_reducible first | refine PreP.mk ?_ ?_ | refine BothP.mk ?_ ?_)
      | ((with_reducible apply AncOr.anc); · decide +kernel)
      | with_reducible refine AncOr.go ?_)
    refine CallOK.go (CallOK.of_spec (s10bad _ dm b hb lo hlok)) (fun r2 H3 hr3 => ?_)
    obtain ⟨rfl, x4, rfl⟩ := hr3
    have h4 : RcG (H2 ++ x3 ++ x4) r mid low l bs ck := h2.keep (by rw [h2.row]; exact nth_app (nth_app h2.row)) (by rw [h2.map]; exact nth_app (nth_app h2.map))
    have d4 : DocAt (H2 ++ x3 ++ x4) dm (allB l) low := nth_app (nth_app d2)
    have hll4 : l.length ≤ i + 1 := by omega
    have hlen4 : l.length ≤ 1000000 := by omega
    have hbig4 : (allB l).length ≤ 9223372036854775807 := by rw [allB_len]; omega
    have hfall : ∀ x ∈ allB l, FitsB x := fun x hx => (h4.good x (all_mem hx)).toFitsB
    have heqs : eqBs (allB l) (allB l) = true := (eqBs_iff _ _).2 rfl
    have hk11 := c11d h4 hlow hlow2
    have hk12 := c12d _ dm l low d4 (by rw [allB_len]; exact hlen4) hlow hlow2 (fun k hk => h4.kpos hk) hlz
    have hk14 := c14g _ r mid low l _ _ h4 hlen4
    have d4u := d4
    unfold DocAt at d4u
    have htt : (true == true) = true := rfl
    have hff : (false == false) = true := rfl
    repeat' (first
      | ((with_reducible apply Onw.mk); conv => whnf)
      | (with_reducible first | apply Br.tt | apply Br.ff | apply Br.no)
      | ((with_reducible apply Br.t); · assumption)
      | ((with_reducible apply Br.f); · assumption)
      | ((with_reducible apply Br.dt); · exact ab_known)
      | ((with_reducible apply Br.df); · exact ab_known)
      | (with_reducible first | refine Br.dec (fun hc => ?_) (fun hc => ?_) | refine Br.mk (fun hc => ?_) (fun hc => ?_))
      | (refine CallOK.go (hk11) (fun r2 H2 hr2 => ?_); obtain ⟨rfl, he2⟩ := hr2; rw [he2]; clear he2 H2)
      | (refine DetCall.go hk11 ?_)
      | (refine CallOK.go (hk12) (fun r2 H2 hr2 => ?_); obtain ⟨rfl, he2⟩ := hr2; rw [he2]; clear he2 H2)
      | (refine DetCall.go hk12 ?_)
      | (refine CallOK.go (hk14) (fun r2 H2 hr2 => ?_); obtain ⟨rfl, he2⟩ := hr2; rw [he2]; clear he2 H2)
      | (refine DetCall.go hk14 ?_)
      | (refine CallOK.go (c13 _ (allB l) (allB l) hbig4 hfall) (fun r2 H2 hr2 => ?_); obtain ⟨rfl, he2⟩ := hr2; rw [he2]; clear he2 H2)
      | (refine DetCall.go (c13 _ (allB l) (allB l) hbig4 hfall) ?_)
      | (refine PreP.mk hrp ?_)
      | (refine EqP.mk hri ?_)
      | ((with_reducible first | apply NeedRows.mk | apply NeedMap.mk | apply NeedIter.mk); · exact ab_look)
      | ((with_reducible apply NeedLen.mk); · first | assumption | rfl)
      | ((with_reducible apply NeedRow.mk); · exact ab_lookR)
      | ((with_reducible apply DrawG.mk (List.replicate 60 false)); · decide +kernel)
      | (with_reducible first | refine NewP.mk (fun id hid => ?_) | refine NilP.mk (fun e he => ?_))
      | (with_reducible first | exact trivial | exact And.intro rfl rfl)
      | ((with_reducible apply PreP.mk); · exact ab_asked)
      | refine Exists.intro _ (PreP.mk (bytesOf_lst _) ?_)
      | refine PreP.mk (lenD_lst _) ?_
      | (with_reducible first | refine PreP.mk ?_ ?_ | refine BothP.mk ?_ ?_)
      | ((with_reducible apply AncOr.anc); · decide +kernel)
      | with_reducible refine AncOr.go ?_)
    have g1 := nth_lt h4.row
    have g2 := nth_lt h4.map
    have g3 := nth_lt d4
    by_cases hin4 : b.seq ∈ l.map (·.seq)
    · refine CallOK.go (c15gin h4 hin4) (fun r2 H5 hr5 => ?_)
      obtain ⟨⟨b5, hb5, hbs5, rfl⟩, he5⟩ := hr5
      rw [he5]; clear he5 H5
      repeat' (first
        | ((with_reducible apply Onw.mk); conv => whnf)
        | (with_reducible first | apply Br.tt | apply Br.ff | apply Br.no)
        | ((with_reducible apply Br.t); · assumption)
        | ((with_reducible apply Br.f); · assumption)
        | ((with_reducible apply Br.dt); · exact ab_known)
        | ((with_reducible apply Br.df); · exact ab_known)
        | (with_reducible first | refine Br.dec (fun hc => ?_) (fun hc => ?_) | refine Br.mk (fun hc => ?_) (fun hc => ?_))
        | (refine PreP.mk hrp ?_)
        | (refine EqP.mk hri ?_)
        | ((with_reducible first | apply NeedRows.mk | apply NeedMap.mk | apply NeedIter.mk); · exact ab_look)
        | ((with_reducible apply NeedLen.mk); · first | assumption | rfl)
        | ((with_reducible apply NeedRow.mk); · exact ab_lookR)
        | ((with_reducible apply DrawG.mk (List.replicate 60 false)); · decide +kernel)
        | (with_reducible first | refine NewP.mk (fun id hid => ?_) | refine NilP.mk (fun e he => ?_))
        | (with_reducible first | exact trivial | exact And.intro rfl rfl)
        | ((with_reducible apply PreP.mk); · exact ab_asked)
        | refine Exists.intro _ (PreP.mk (bytesOf_lst _) ?_)
        | refine PreP.mk (lenD_lst _) ?_
        | (with_reducible first | refine PreP.mk ?_ ?_ | refine BothP.mk ?_ ?_)
        | ((with_reducible apply AncOr.anc); · decide +kernel)
        | with_reducible refine AncOr.go ?_)
      refine CallOK.go (c16 _ dm (allB l) low (nth_setN_ne (by omega) (nth_app d4)) (by rw [allB_len]; exact hlen4) _) (fun r2 H5 hr5 => ?_)
      obtain ⟨rfl, he5⟩ := hr5
      rw [he5]; clear he5 H5
      obtain ⟨b6, hb6, hbs6, hg6⟩ := getD_in (L := allB l) (n := b.seq) ((all_keys _).2 hin4)
      obtain rfl : b6 = b5 := seq_unique h4.keys (all_mem hb6) hb5 (by rw [hbs6, hbs5])
      have heqb : eqB b6 b6 = true := (eqB_iff _ _).2 rfl
      have hf6 := (h4.good b6 hb5).toFitsB
      rw [show getD (allB l) (b, lo).1.seq = _ from hg6]
      repeat' (first
        | ((with_reducible apply Onw.mk); conv => whnf)
        | (with_reducible first | apply Br.tt | apply Br.ff | apply Br.no)
        | ((with_reducible apply Br.t); · assumption)
        | ((with_reducible apply Br.f); · assumption)
        | ((with_reducible apply Br.dt); · exact ab_known)
        | ((with_reducible apply Br.df); · exact ab_known)
        | (with_reducible first | refine Br.dec (fun hc => ?_) (fun hc => ?_) | refine Br.mk (fun hc => ?_) (fun hc => ?_))
        | (refine CallOK.go (c17 _ b6 b6 hf6) (fun r2 H2 hr2 => ?_); obtain ⟨rfl, he2⟩ := hr2; rw [he2]; clear he2 H2)
        | (refine DetCall.go (c17 _ b6 b6 hf6) ?_)
        | (refine PreP.mk hrp ?_)
        | (refine EqP.mk hri ?_)
        | ((with_reducible first | apply NeedRows.mk | apply NeedMap.mk | apply NeedIter.mk); · exact ab_look)
        | ((with_reducible apply NeedLen.mk); · first | assumption | rfl)
        | ((with_reducible apply NeedRow.mk); · exact ab_lookR)
        | ((with_reducible apply DrawG.mk (List.replicate 60 false)); · decide +kernel)
        | (with_reducible first | refine NewP.mk (fun id hid => ?_) | refine NilP.mk (fun e he => ?_))
        | (with_reducible first | exact trivial | exact And.intro rfl rfl)
        | ((with_reducible apply PreP.mk); · exact ab_asked)
        | refine Exists.intro _ (PreP.mk (bytesOf_lst _) ?_)
        | refine PreP.mk (lenD_lst _) ?_
        | (with_reducible first | refine PreP.mk ?_ ?_ | refine BothP.mk ?_ ?_)
        | ((with_reducible apply AncOr.anc); · decide +kernel)
        | with_reducible refine AncOr.go ?_)
      refine Run.walk hm Try.func3 100 ?_
      repeat' (first
        | ((with_reducible apply Onw.mk); conv => whnf)
        | (with_reducible first | apply Br.tt | apply Br.ff | apply Br.no)
        | ((with_reducible apply Br.t); · assumption)
        | ((with_reducible apply Br.f); · assumption)
        | ((with_reducible apply Br.dt); · exact ab_known)
        | ((with_reducible apply Br.df); · exact ab_known)
        | (with_reducible first | refine Br.dec (fun hc => ?_) (fun hc => ?_) | refine Br.mk (fun hc => ?_) (fun hc => ?_))
        | (refine CallOK.go (c17 _ b6 b6 hf6) (fun r2 H2 hr2 => ?_); obtain ⟨rfl, he2⟩ := hr2; rw [he2]; clear he2 H2)
        | (refine DetCall.go (c17 _ b6 b6 hf6) ?_)
        | (refine PreP.mk hrp ?_)
        | (refine EqP.mk hri ?_)
        | ((with_reducible first | apply NeedRows.mk | apply NeedMap.mk | apply NeedIter.mk); · exact ab_look)
        | ((with_reducible apply NeedLen.mk); · first | assumption | rfl)
        | ((with_reducible apply NeedRow.mk); · exact ab_lookR)
        | ((with_reducible apply DrawG.mk (List.replicate 60 false)); · decide +kernel)
        | (with_reducible first | refine NewP.mk (fun id hid => ?_) | refine NilP.mk (fun e he => ?_))
        | (with_reducible first | exact trivial | exact And.intro rfl rfl)
        | ((with_reducible apply PreP.mk); · exact ab_asked)
        | refine Exists.intro _ (PreP.mk (bytesOf_lst _) ?_)
        | refine PreP.mk (lenD_lst _) ?_
        | (with_reducible first | refine PreP.mk ?_ ?_ | refine BothP.mk ?_ ?_)
        | ((with_reducible apply AncOr.anc); · decide +kernel)
        | with_reducible refine AncOr.go ?_)
      rw [setN_length, List.length_append] at hid
      refine Run.keep _ ?_ (ih (i + 1) _ _ (by omega) ⟨l, _, _, low, rfl, h4.keep (by rw [h4.row]; exact nth_setN_ne (by omega) (nth_app (nth_setN_ne (by omega) (nth_app h4.row)))) (by rw [h4.map]; exact nth_setN_ne (by omega) (nth_app (nth_setN_ne (by omega) (nth_app h4.map)))), nth_setN_ne (by omega) (nth_app (nth_setN_ne (by omega) (nth_app d4))), hlow, hlow2, hlz, hll4, by omega⟩)
      exact ⟨rfl, rfl, rfl, congrArg (fun x => some (i64 x)) wi, trivial⟩
    · refine CallOK.go (c15gout h4 hin4) (fun r2 H5 hr5 => ?_)
      obtain ⟨rfl, he5⟩ := hr5
      rw [he5]; clear he5 H5
      repeat' (first
        | ((with_reducible apply Onw.mk); conv => whnf)
        | (with_reducible first | apply Br.tt | apply Br.ff | apply Br.no)
        | ((with_reducible apply Br.t); · assumption)
        | ((with_reducible apply Br.f); · assumption)
        | ((with_reducible apply Br.dt); · exact ab_known)
        | ((with_reducible apply Br.df); · exact ab_known)
        | (with_reducible first | refine Br.dec (fun hc => ?_) (fun hc => ?_) | refine Br.mk (fun hc => ?_) (fun hc => ?_))
        | (refine PreP.mk hrp ?_)
        | (refine EqP.mk hri ?_)
        | ((with_reducible first | apply NeedRows.mk | apply NeedMap.mk | apply NeedIter.mk); · exact ab_look)
        | ((with_reducible apply NeedLen.mk); · first | assumption | rfl)
        | ((with_reducible apply NeedRow.mk); · exact ab_lookR)
        | ((with_reducible apply DrawG.mk (List.replicate 60 false)); · decide +kernel)
        | (with_reducible first | refine NewP.mk (fun id hid => ?_) | refine NilP.mk (fun e he => ?_))
        | (with_reducible first | exact trivial | exact And.intro rfl rfl)
        | ((with_reducible apply PreP.mk); · exact ab_asked)
        | refine Exists.intro _ (PreP.mk (bytesOf_lst _) ?_)
        | refine PreP.mk (lenD_lst _) ?_
        | (with_reducible first | refine PreP.mk ?_ ?_ | refine BothP.mk ?_ ?_)
        | ((with_reducible apply AncOr.anc); · decide +kernel)
        | with_reducible refine AncOr.go ?_)
      refine CallOK.go (c16 _ dm (allB l) low (nth_setN_ne (by omega) (nth_app d4)) (by rw [allB_len]; exact hlen4) _) (fun r2 H5 hr5 => ?_)
      obtain ⟨rfl, he5⟩ := hr5
      rw [he5]; clear he5 H5
      rw [show getD (allB l) (b, lo).1.seq = _ from getD_out (fun q => hin4 ((all_keys _).1 q))]
      repeat' (first
        | ((with_reducible apply Onw.mk); conv => whnf)
        | (with_reducible first | apply Br.tt | apply Br.ff | apply Br.no)
        | ((with_reducible apply Br.t); · assumption)
        | ((with_reducible apply Br.f); · assumption)
        | ((with_reducible apply Br.dt); · exact ab_known)
        | ((with_reducible apply Br.df); · exact ab_known)
        | (with_reducible first | refine Br.dec (fun hc => ?_) (fun hc => ?_) | refine Br.mk (fun hc => ?_) (fun hc => ?_))
        | (refine PreP.mk hrp ?_)
        | (refine EqP.mk hri ?_)
        | ((with_reducible first | apply NeedRows.mk | apply NeedMap.mk | apply NeedIter.mk); · exact ab_look)
        | ((with_reducible apply NeedLen.mk); · first | assumption | rfl)
        | ((with_reducible apply NeedRow.mk); · exact ab_lookR)
        | ((with_reducible apply DrawG.mk (List.replicate 60 false)); · decide +kernel)
        | (with_reducible first | refine NewP.mk (fun id hid => ?_) | refine NilP.mk (fun e he => ?_))
        | (with_reducible first | exact trivial | exact And.intro rfl rfl)
        | ((with_reducible apply PreP.mk); · exact ab_asked)
        | refine Exists.intro _ (PreP.mk (bytesOf_lst _) ?_)
        | refine PreP.mk (lenD_lst _) ?_
        | (with_reducible first | refine PreP.mk ?_ ?_ | refine BothP.mk ?_ ?_)
        | ((with_reducible apply AncOr.anc); · decide +kernel)
        | with_reducible refine AncOr.go ?_)
      refine Run.walk hm Try.func3 100 ?_
      repeat' (first
        | ((with_reducible apply Onw.mk); conv => whnf)
        | (with_reducible first | apply Br.tt | apply Br.ff | apply Br.no)
        | ((with_reducible apply Br.t); · assumption)
        | ((with_reducible apply Br.f); · assumption)
        | ((with_reducible apply Br.dt); · exact ab_known)
        | ((with_reducible apply Br.df); · exact ab_known)
        | (with_reducible first | refine Br.dec (fun hc => ?_) (fun hc => ?_) | refine Br.mk (fun hc => ?_) (fun hc => ?_))
        | (refine PreP.mk hrp ?_)
        | (refine EqP.mk hri ?_)
        | ((with_reducible first | apply NeedRows.mk | apply NeedMap.mk | apply NeedIter.mk); · exact ab_look)
        | ((with_reducible apply NeedLen.mk); · first | assumption | rfl)
        | ((with_reducible apply NeedRow.mk); · exact ab_lookR)
        | ((with_reducible apply DrawG.mk (List.replicate 60 false)); · decide +kernel)
        | (with_reducible first | refine NewP.mk (fun id hid => ?_) | refine NilP.mk (fun e he => ?_))
        | (with_reducible first | exact trivial | exact And.intro rfl rfl)
        | ((with_reducible apply PreP.mk); · exact ab_asked)
        | refine Exists.intro _ (PreP.mk (bytesOf_lst _) ?_)
        | refine PreP.mk (lenD_lst _) ?_
        | (with_reducible first | refine PreP.mk ?_ ?_ | refine BothP.mk ?_ ?_)
        | ((with_reducible apply AncOr.anc); · decide +kernel)
        | with_reducible refine AncOr.go ?_)
      rw [setN_length, List.length_append] at hid
      refine Run.keep _ ?_ (ih (i + 1) _ _ (by omega) ⟨l, _, _, low, rfl, h4.keep (by rw [h4.row]; exact nth_setN_ne (by omega) (nth_app (nth_setN_ne (by omega) (nth_app h4.row)))) (by rw [h4.map]; exact nth_setN_ne (by omega) (nth_app (nth_setN_ne (by omega) (nth_app h4.map)))), nth_setN_ne (by omega) (nth_app (nth_setN_ne (by omega) (nth_app d4))), hlow, hlow2, hlz, hll4, by omega⟩)
      exact ⟨rfl, rfl, rfl, congrArg (fun x => some (i64 x)) wi, trivial⟩

  | true =>
    have hlok2 := hlok
    unfold letterOK at hlok2
    simp only [Bool.and_eq_true, decide_eq_true_eq] at hlok2
    obtain ⟨hbo, hl1, hl2⟩ := hlok2
    have hmaxlo : 0 ≤ (if low < lo then lo else low) ∧ (if low < lo then lo else low) ≤ 9223372036854775807 ∧ (if low < lo then lo else low) ≠ 0 := by
      have := hwb.seq
      split <;> omega
    by_cases hin : b.seq ∈ l.map (·.seq)
    · refine CallOK.go (CallOK.of_spec (s9gin _ r mid low l bs ck h2 b hb lo hlok hwb.seq hlow hlow2 hin)) (fun r2 H3 hr3 => ?_)
      obtain ⟨m3, rfl, hm3, h3, hg3⟩ := hr3
      have d3 := hg3.out dm _ hne d2
      repeat' (first
        | ((with_reducible apply Onw.mk); conv => whnf)
        | (with_reducible first | apply Br.tt | apply Br.ff | apply Br.no)
        | ((with_reducible apply Br.t); · assumption)
        | ((with_reducible apply Br.f); · assumption)
        | ((with_reducible apply Br.dt); · exact ab_known)
        | ((with_reducible apply Br.df); · exact ab_known)
        | (with_reducible first | refine Br.dec (fun hc => ?_) (fun hc => ?_) | refine Br.mk (fun hc => ?_) (fun hc => ?_))
        | (refine PreP.mk hrp ?_)
        | (refine EqP.mk hri ?_)
        | ((with_reducible first | apply NeedRows.mk | apply NeedMap.mk | apply NeedIter.mk); · exact ab_look)
        | ((with_reducible apply NeedLen.mk); · first | assumption | rfl)
        | ((with_reducible apply NeedRow.mk); · exact ab_lookR)
        | ((with_reducible apply DrawG.mk (List.replicate 60 false)); · decide +kernel)
        | (with_reducible first | refine NewP.mk (fun id hid => ?_) | refine NilP.mk (fun e he => ?_))
        | (with_reducible first | exact trivial | exact And.intro rfl rfl)
        | ((with_reducible apply PreP.mk); · exact ab_asked)
        | refine Exists.intro _ (PreP.mk (bytesOf_lst _) ?_)
        | refine PreP.mk (lenD_lst _) ?_
        | (with_reducible first | refine PreP.mk ?_ ?_ | refine BothP.mk ?_ ?_)
        | ((with_reducible apply AncOr.anc); · decide +kernel)
        | with_reducible refine AncOr.go ?_)
      refine CallOK.go (CallOK.of_spec (s10in _ dm (allB l) low d3 (by rw [allB_len]; omega) b hb lo hlok hlow hlow2 hwb.seq (fun k hk => h2.kpos ((all_keys k).1 hk)) ((all_keys _).2 hin))) (fun r2 H4 hr4 => ?_)
      obtain ⟨k4, rfl, hk4, d4, hg4⟩ := hr4
      have h4 : RcG H4 r mid (if low < lo then lo else low) l bs ck := h3.keep (by rw [h3.row]; exact hg4.out r _ hner h3.row) (by rw [h3.map]; exact hg4.out mid _ hnem h3.map)
      obtain rfl : k4 = m3 := (hk4.congr all_keys).eq hm3
      have hll4 : l.length ≤ i + 1 := by omega
      generalize (if low < lo then lo else low) = low at *
      have hlow := hmaxlo.1
      have hlow2 := hmaxlo.2.1
      have hlz : low = 0 → l = [] := fun e => absurd e hmaxlo.2.2
      have hlen4 : l.length ≤ 1000000 := by omega
      have hbig4 : (allB l).length ≤ 9223372036854775807 := by rw [allB_len]; omega
      have hfall : ∀ x ∈ allB l, FitsB x := fun x hx => (h4.good x (all_mem hx)).toFitsB
      have heqs : eqBs (allB l) (allB l) = true := (eqBs_iff _ _).2 rfl
      have hk11 := c11d h4 hlow hlow2
      have hk12 := c12d _ dm l low d4 (by rw [allB_len]; exact hlen4) hlow hlow2 (fun k hk => h4.kpos hk) hlz
      have hk14 := c14g _ r mid low l _ _ h4 hlen4
      have d4u := d4
      unfold DocAt at d4u
      have htt : (true == true) = true := rfl
      have hff : (false == false) = true := rfl
      repeat' (first
        | ((with_reducible apply Onw.mk); conv => whnf)
        | (with_reducible first | apply Br.tt | apply Br.ff | apply Br.no)
        | ((with_reducible apply Br.t); · assumption)
        | ((with_reducible apply Br.f); · assumption)
        | ((with_reducible apply Br.dt); · exact ab_known)
        | ((with_reducible apply Br.df); · exact ab_known)
        | (with_reducible first | refine Br.dec (fun hc => ?_) (fun hc => ?_) | refine Br.mk (fun hc => ?_) (fun hc => ?_))
        | (refine CallOK.go (hk11) (fun r2 H2 hr2 => ?_); obtain ⟨rfl, he2⟩ := hr2; rw [he2]; clear he2 H2)
        | (refine DetCall.go hk11 ?_)
        | (refine CallOK.go (hk12) (fun r2 H2 hr2 => ?_); obtain ⟨rfl, he2⟩ := hr2; rw [he2]; clear he2 H2)
        | (refine DetCall.go hk12 ?_)
        | (refine CallOK.go (hk14) (fun r2 H2 hr2 => ?_); obtain ⟨rfl, he2⟩ := hr2; rw [he2]; clear he2 H2)
        | (refine DetCall.go hk14 ?_)
        | (refine CallOK.go (c13 _ (allB l) (allB l) hbig4 hfall) (fun r2 H2 hr2 => ?_); obtain ⟨rfl, he2⟩ := hr2; rw [he2]; clear he2 H2)
        | (refine DetCall.go (c13 _ (allB l) (allB l) hbig4 hfall) ?_)
        | (refine PreP.mk hrp ?_)
        | (refine EqP.mk hri ?_)
        | ((with_reducible first | apply NeedRows.mk | apply NeedMap.mk | apply NeedIter.mk); · exact ab_look)
        | ((with_reducible apply NeedLen.mk); · first | assumption | rfl)
        | ((with_reducible apply NeedRow.mk); · exact ab_lookR)
        | ((with_reducible apply DrawG.mk (List.replicate 60 false)); · decide +kernel)
        | (with_reducible first | refine NewP.mk (fun id hid => ?_) | refine NilP.mk (fun e he => ?_))
        | (with_reducible first | exact trivial | exact And.intro rfl rfl)
        | ((with_reducible apply PreP.mk); · exact ab_asked)
        | refine Exists.intro _ (PreP.mk (bytesOf_lst _) ?_)
        | refine PreP.mk (lenD_lst _) ?_
        | (with_reducible first | refine PreP.mk ?_ ?_ | refine BothP.mk ?_ ?_)
        | ((with_reducible apply AncOr.anc); · decide +kernel)
        | with_reducible refine AncOr.go ?_)
      have g1 := nth_lt h4.row
      have g2 := nth_lt h4.map
      have g3 := nth_lt d4
      by_cases hin4 : b.seq ∈ l.map (·.seq)
      · refine CallOK.go (c15gin h4 hin4) (fun r2 H5 hr5 => ?_)
        obtain ⟨⟨b5, hb5, hbs5, rfl⟩, he5⟩ := hr5
        rw [he5]; clear he5 H5
        repeat' (first
          | ((with_reducible apply Onw.mk); conv => whnf)
          | (with_reducible first | apply Br.tt | apply Br.ff | apply Br.no)
          | ((with_reducible apply Br.t); · assumption)
          | ((with_reducible apply Br.f); · assumption)
          | ((with_reducible apply Br.dt); · exact ab_known)
          | ((with_reducible apply Br.df); · exact ab_known)
          | (with_reducible first | refine Br.dec (fun hc => ?_) (fun hc => ?_) | refine Br.mk (fun hc => ?_) (fun hc => ?_))
          | (refine PreP.mk hrp ?_)
          | (refine EqP.mk hri ?_)
          | ((with_reducible first | apply NeedRows.mk | apply NeedMap.mk | apply NeedIter.mk); · exact ab_look)
          | ((with_reducible apply NeedLen.mk); · first | assumption | rfl)
          | ((with_reducible apply NeedRow.mk); · exact ab_lookR)
          | ((with_reducible apply DrawG.mk (List.replicate 60 false)); · decide +kernel)
          | (with_reducible first | refine NewP.mk (fun id hid => ?_) | refine NilP.mk (fun e he => ?_))
          | (with_reducible first | exact trivial | exact And.intro rfl rfl)
          | ((with_reducible apply PreP.mk); · exact ab_asked)
          | refine Exists.intro _ (PreP.mk (bytesOf_lst _) ?_)
          | refine PreP.mk (lenD_lst _) ?_
          | (with_reducible first | refine PreP.mk ?_ ?_ | refine BothP.mk ?_ ?_)
          | ((with_reducible apply AncOr.anc); · decide +kernel)
          | with_reducible refine AncOr.go ?_)
        refine CallOK.go (c16 _ dm (allB l) low (nth_setN_ne (by omega) (nth_app d4)) (by rw [allB_len]; exact hlen4) _) (fun r2 H5 hr5 => ?_)
        obtain ⟨rfl, he5⟩ := hr5
        rw [he5]; clear he5 H5
        obtain ⟨b6, hb6, hbs6, hg6⟩ := getD_in (L := allB l) (n := b.seq) ((all_keys _).2 hin4)
        obtain rfl : b6 = b5 := seq_unique h4.keys (all_mem hb6) hb5 (by rw [hbs6, hbs5])
        have heqb : eqB b6 b6 = true := (eqB_iff _ _).2 rfl
        have hf6 := (h4.good b6 hb5).toFitsB
        rw [show getD (allB l) (b, lo).1.seq = _ from hg6]
        repeat' (first
          | ((with_reducible apply Onw.mk); conv => whnf)
          | (with_reducible first | apply Br.tt | apply Br.ff | apply Br.no)
          | ((with_reducible apply Br.t); · assumption)
          | ((with_reducible apply Br.f); · assumption)
          | ((with_reducible apply Br.dt); · exact ab_known)
          | ((with_reducible apply Br.df); · exact ab_known)
          | (with_reducible first | refine Br.dec (fun hc => ?_) (fun hc => ?_) | refine Br.mk (fun hc => ?_) (fun hc => ?_))
          | (refine CallOK.go (c17 _ b6 b6 hf6) (fun r2 H2 hr2 => ?_); obtain ⟨rfl, he2⟩ := hr2; rw [he2]; clear he2 H2)
          | (refine DetCall.go (c17 _ b6 b6 hf6) ?_)
          | (refine PreP.mk hrp ?_)
          | (refine EqP.mk hri ?_)
          | ((with_reducible first | apply NeedRows.mk | apply NeedMap.mk | apply NeedIter.mk); · exact ab_look)
          | ((with_reducible apply NeedLen.mk); · first | assumption | rfl)
          | ((with_reducible apply NeedRow.mk); · exact ab_lookR)
          | ((with_reducible apply DrawG.mk (List.replicate 60 false)); · decide +kernel)
          | (with_reducible first | refine NewP.mk (fun id hid => ?_) | refine NilP.mk (fun e he => ?_))
          | (with_reducible first | exact trivial | exact And.intro rfl rfl)
          | ((with_reducible apply PreP.mk); · exact ab_asked)
          | refine Exists.intro _ (PreP.mk (bytesOf_lst _) ?_)
          | refine PreP.mk (lenD_lst _) ?_
          | (with_reducible first | refine PreP.mk ?_ ?_ | refine BothP.mk ?_ ?_)
          | ((with_reducible apply AncOr.anc); · decide +kernel)
          | with_reducible refine AncOr.go ?_)
        refine Run.walk hm Try.func3 100 ?_
        repeat' (first
          | ((with_reducible apply Onw.mk); conv => whnf)
          | (with_reducible first | apply Br.tt | apply Br.ff | apply Br.no)
          | ((with_reducible apply Br.t); · assumption)
          | ((with_reducible apply Br.f); · assumption)
          | ((with_reducible apply Br.dt); · exact ab_known)
          | ((with_reducible apply Br.df); · exact ab_known)
          | (with_reducible first | refine Br.dec (fun hc => ?_) (fun hc => ?_) | refine Br.mk (fun hc => ?_) (fun hc => ?_))
          | (refine CallOK.go (c17 _ b6 b6 hf6) (fun r2 H2 hr2 => ?_); obtain ⟨rfl, he2⟩ := hr2; rw [he2]; clear he2 H2)
          | (refine DetCall.go (c17 _ b6 b6 hf6) ?_)
          | (refine PreP.mk hrp ?_)
          | (refine EqP.mk hri ?_)
          | ((with_reducible first | apply NeedRows.mk | apply NeedMap.mk | apply NeedIter.mk); · exact ab_look)
          | ((with_reducible apply NeedLen.mk); · first | assumption | rfl)
          | ((with_reducible apply NeedRow.mk); · exact ab_lookR)
          | ((with_reducible apply DrawG.mk (List.replicate 60 false)); · decide +kernel)
          | (with_reducible first | refine NewP.mk (fun id hid => ?_) | refine NilP.mk (fun e he => ?_))
          | (with_reducible first | exact trivial | exact And.intro rfl rfl)
          | ((with_reducible apply PreP.mk); · exact ab_asked)
          | refine Exists.intro _ (PreP.mk (bytesOf_lst _) ?_)
          | refine PreP.mk (lenD_lst _) ?_
          | (with_reducible first | refine PreP.mk ?_ ?_ | refine BothP.mk ?_ ?_)
          | ((with_reducible apply AncOr.anc); · decide +kernel)
          | with_reducible refine AncOr.go ?_)
        rw [setN_length, List.length_append] at hid
        refine Run.keep _ ?_ (ih (i + 1) _ _ (by omega) ⟨l, _, _, low, rfl, h4.keep (by rw [h4.row]; exact nth_setN_ne (by omega) (nth_app (nth_setN_ne (by omega) (nth_app h4.row)))) (by rw [h4.map]; exact nth_setN_ne (by omega) (nth_app (nth_setN_ne (by omega) (nth_app h4.map)))), nth_setN_ne (by omega) (nth_app (nth_setN_ne (by omega) (nth_app d4))), hlow, hlow2, hlz, hll4, by omega⟩)
        exact ⟨rfl, rfl, rfl, congrArg (fun x => some (i64 x)) wi, trivial⟩
      · refine CallOK.go (c15gout h4 hin4) (fun r2 H5 hr5 => ?_)
        obtain ⟨rfl, he5⟩ := hr5
        rw [he5]; clear he5 H5
        repeat' (first
          | ((with_reducible apply Onw.mk); conv => whnf)
          | (with_reducible first | apply Br.tt | apply Br.ff | apply Br.no)
          | ((with_reducible apply Br.t); · assumption)
          | ((with_reducible apply Br.f); · assumption)
          | ((with_reducible apply Br.dt); · exact ab_known)
          | ((with_reducible apply Br.df); · exact ab_known)
          | (with_reducible first | refine Br.dec (fun hc => ?_) (fun hc => ?_) | refine Br.mk (fun hc => ?_) (fun hc => ?_))
          | (refine PreP.mk hrp ?_)
          | (refine EqP.mk hri ?_)
          | ((with_reducible first | apply NeedRows.mk | apply NeedMap.mk | apply NeedIter.mk); · exact ab_look)
          | ((with_reducible apply NeedLen.mk); · first | assumption | rfl)
          | ((with_reducible apply NeedRow.mk); · exact ab_lookR)
          | ((with_reducible apply DrawG.mk (List.replicate 60 false)); · decide +kernel)
          | (with_reducible first | refine NewP.mk (fun id hid => ?_) | refine NilP.mk (fun e he => ?_))
          | (with_reducible first | exact trivial | exact And.intro rfl rfl)
          | ((with_reducible apply PreP.mk); · exact ab_asked)
          | refine Exists.intro _ (PreP.mk (bytesOf_lst _) ?_)
          | refine PreP.mk (lenD_lst _) ?_
          | (with_reducible first | refine PreP.mk ?_ ?_ | refine BothP.mk ?_ ?_)
          | ((with_reducible apply AncOr.anc); · decide +kernel)
          | with_reducible refine AncOr.go ?_)
        refine CallOK.go (c16 _ dm (allB l) low (nth_setN_ne (by omega) (nth_app d4)) (by rw [allB_len]; exact hlen4) _) (fun r2 H5 hr5 => ?_)
        obtain ⟨rfl, he5⟩ := hr5
        rw [he5]; clear he5 H5
        rw [show getD (allB l) (b, lo).1.seq = _ from getD_out (fun q => hin4 ((all_keys _).1 q))]
        repeat' (first
          | ((with_reducible apply Onw.mk); conv => whnf)
          | (with_reducible first | apply Br.tt | apply Br.ff | apply Br.no)
          | ((with_reducible apply Br.t); · assumption)
          | ((with_reducible apply Br.f); · assumption)
          | ((with_reducible apply Br.dt); · exact ab_known)
          | ((with_reducible apply Br.df); · exact ab_known)
          | (with_reducible first | refine Br.dec (fun hc => ?_) (fun hc => ?_) | refine Br.mk (fun hc => ?_) (fun hc => ?_))
          | (refine PreP.mk hrp ?_)
          | (refine EqP.mk hri ?_)
          | ((with_reducible first | apply NeedRows.mk | apply NeedMap.mk | apply NeedIter.mk); · exact ab_look)
          | ((with_reducible apply NeedLen.mk); · first | assumption | rfl)
          | ((with_reducible apply NeedRow.mk); · exact ab_lookR)
          | ((with_reducible apply DrawG.mk (List.replicate 60 false)); · decide +kernel)
          | (with_reducible first | refine NewP.mk (fun id hid => ?_) | refine NilP.mk (fun e he => ?_))
          | (with_reducible first | exact trivial | exact And.intro rfl rfl)
          | ((with_reducible apply PreP.mk); · exact ab_asked)
          | refine Exists.intro _ (PreP.mk (bytesOf_lst _) ?_)
          | refine PreP.mk (lenD_lst _) ?_
          | (with_reducible first | refine PreP.mk ?_ ?_ | refine BothP.mk ?_ ?_)
          | ((with_reducible apply AncOr.anc); · decide +kernel)
          | with_reducible refine AncOr.go ?_)
        refine Run.walk hm Try.func3 100 ?_
        repeat' (first
          | ((with_reducible apply Onw.mk); conv => whnf)
          | (with_reducible first | apply Br.tt | apply Br.ff | apply Br.no)
          | ((with_reducible apply Br.t); · assumption)
          | ((with_reducible apply Br.f); · assumption)
          | ((with_reducible apply Br.dt); · exact ab_known)
          | ((with_reducible apply Br.df); · exact ab_known)
          | (with_reducible first | refine Br.dec (fun hc => ?_) (fun hc => ?_) | refine Br.mk (fun hc => ?_) (fun hc => ?_))
          | (refine PreP.mk hrp ?_)
          | (refine EqP.mk hri ?_)
          | ((with_reducible first | apply NeedRows.mk | apply NeedMap.mk | apply NeedIter.mk); · exact ab_look)
          | ((with_reducible apply NeedLen.mk); · first | assumption | rfl)
          | ((with_reducible apply NeedRow.mk); · exact ab_lookR)
          | ((with_reducible apply DrawG.mk (List.replicate 60 false)); · decide +kernel)
          | (with_reducible first | refine NewP.mk (fun id hid => ?_) | refine NilP.mk (fun e he => ?_))
          | (with_reducible first | exact trivial | exact And.intro rfl rfl)
          | ((with_reducible apply PreP.mk); · exact ab_asked)
          | refine Exists.intro _ (PreP.mk (bytesOf_lst _) ?_)
          | refine PreP.mk (lenD_lst _) ?_
          | (with_reducible first | refine PreP.mk ?_ ?_ | refine BothP.mk ?_ ?_)
          | ((with_reducible apply AncOr.anc); · decide +kernel)
          | with_reducible refine AncOr.go ?_)
        rw [setN_length, List.length_append] at hid
        refine Run.keep _ ?_ (ih (i + 1) _ _ (by omega) ⟨l, _, _, low, rfl, h4.keep (by rw [h4.row]; exact nth_setN_ne (by omega) (nth_app (nth_setN_ne (by omega) (nth_app h4.row)))) (by rw [h4.map]; exact nth_setN_ne (by omega) (nth_app (nth_setN_ne (by omega) (nth_app h4.map)))), nth_setN_ne (by omega) (nth_app (nth_setN_ne (by omega) (nth_app d4))), hlow, hlow2, hlz, hll4, by omega⟩)
        exact ⟨rfl, rfl, rfl, congrArg (fun x => some (i64 x)) wi, trivial⟩

    · refine CallOK.go (CallOK.of_spec (s9gout _ r mid low l bs ck h2 b hb lo hlok hwb.seq hlow hlow2 hin)) (fun r2 H3 hr3 => ?_)
      obtain ⟨m3, bs3, ck3, rfl, hm3, h3, hg3⟩ := hr3
      have d3 := hg3.out dm _ hne d2
      repeat' (first
        | ((with_reducible apply Onw.mk); conv => whnf)
        | (with_reducible first | apply Br.tt | apply Br.ff | apply Br.no)
        | ((with_reducible apply Br.t); · assumption)
        | ((with_reducible apply Br.f); · assumption)
        | ((with_reducible apply Br.dt); · exact ab_known)
        | ((with_reducible apply Br.df); · exact ab_known)
        | (with_reducible first | refine Br.dec (fun hc => ?_) (fun hc => ?_) | refine Br.mk (fun hc => ?_) (fun hc => ?_))
        | (refine PreP.mk hrp ?_)
        | (refine EqP.mk hri ?_)
        | ((with_reducible first | apply NeedRows.mk | apply NeedMap.mk | apply NeedIter.mk); · exact ab_look)
        | ((with_reducible apply NeedLen.mk); · first | assumption | rfl)
        | ((with_reducible apply NeedRow.mk); · exact ab_lookR)
        | ((with_reducible apply DrawG.mk (List.replicate 60 false)); · decide +kernel)
        | (with_reducible first | refine NewP.mk (fun id hid => ?_) | refine NilP.mk (fun e he => ?_))
        | (with_reducible first | exact trivial | exact And.intro rfl rfl)
        | ((with_reducible apply PreP.mk); · exact ab_asked)
        | refine Exists.intro _ (PreP.mk (bytesOf_lst _) ?_)
        | refine PreP.mk (lenD_lst _) ?_
        | (with_reducible first | refine PreP.mk ?_ ?_ | refine BothP.mk ?_ ?_)
        | ((with_reducible apply AncOr.anc); · decide +kernel)
        | with_reducible refine AncOr.go ?_)
      refine CallOK.go (CallOK.of_spec (s10out _ dm l low d3 (by rw [allB_len]; omega) b hb lo hlok hlow hlow2 hwb.seq (fun k hk => h3.kpos ((all_keys k).1 hk)) h3.keys)) (fun r2 H4 hr4 => ?_)
      obtain ⟨k4, rfl, hk4, d4, hg4⟩ := hr4
      have h4 : RcG H4 r mid (if low < lo then lo else low) (l ++ [b]) bs3 ck3 := h3.keep (by rw [h3.row]; exact hg4.out r _ hner h3.row) (by rw [h3.map]; exact hg4.out mid _ hnem h3.map)
      obtain rfl : k4 = m3 := (hk4.congr all_keys).eq hm3
      have hll4 : (l ++ [b]).length ≤ i + 1 := by simp; omega
      generalize (if low < lo then lo else low) = low at *
      have hlow := hmaxlo.1
      have hlow2 := hmaxlo.2.1
      have hlz : low = 0 → l ++ [b] = [] := fun e => absurd e hmaxlo.2.2
      clear hm3 hk4 hg3 hg4 h3 d3
      generalize l ++ [b] = l at *
      have hlen4 : l.length ≤ 1000000 := by omega
      have hbig4 : (allB l).length ≤ 9223372036854775807 := by rw [allB_len]; omega
      have hfall : ∀ x ∈ allB l, FitsB x := fun x hx => (h4.good x (all_mem hx)).toFitsB
      have heqs : eqBs (allB l) (allB l) = true := (eqBs_iff _ _).2 rfl
      have hk11 := c11d h4 hlow hlow2
      have hk12 := c12d _ dm l low d4 (by rw [allB_len]; exact hlen4) hlow hlow2 (fun k hk => h4.kpos hk) hlz
      have hk14 := c14g _ r mid low l _ _ h4 hlen4
      have d4u := d4
      unfold DocAt at d4u
      have htt : (true == true) = true := rfl
      have hff : (false == false) = true := rfl
      repeat' (first
        | ((with_reducible apply Onw.mk); conv => whnf)
        | (with_reducible first | apply Br.tt | apply Br.ff | apply Br.no)
        | ((with_reducible apply Br.t); · assumption)
        | ((with_reducible apply Br.f); · assumption)
        | ((with_reducible apply Br.dt); · exact ab_known)
        | ((with_reducible apply Br.df); · exact ab_known)
        | (with_reducible first | refine Br.dec (fun hc => ?_) (fun hc => ?_) | refine Br.mk (fun hc => ?_) (fun hc => ?_))
        | (refine CallOK.go (hk11) (fun r2 H2 hr2 => ?_); obtain ⟨rfl, he2⟩ := hr2; rw [he2]; clear he2 H2)
        | (refine DetCall.go hk11 ?_)
        | (refine CallOK.go (hk12) (fun r2 H2 hr2 => ?_); obtain ⟨rfl, he2⟩ := hr2; rw [he2]; clear he2 H2)
        | (refine DetCall.go hk12 ?_)
        | (refine CallOK.go (hk14) (fun r2 H2 hr2 => ?_); obtain ⟨rfl, he2⟩ := hr2; rw [he2]; clear he2 H2)
        | (refine DetCall.go hk14 ?_)
        | (refine CallOK.go (c13 _ (allB l) (allB l) hbig4 hfall) (fun r2 H2 hr2 => ?_); obtain ⟨rfl, he2⟩ := hr2; rw [he2]; clear he2 H2)
        | (refine DetCall.go (c13 _ (allB l) (allB l) hbig4 hfall) ?_)
        | (refine PreP.mk hrp ?_)
        | (refine EqP.mk hri ?_)
        | ((with_reducible first | apply NeedRows.mk | apply NeedMap.mk | apply NeedIter.mk); · exact ab_look)
        | ((with_reducible apply NeedLen.mk); · first | assumption | rfl)
        | ((with_reducible apply NeedRow.mk); · exact ab_lookR)
        | ((with_reducible apply DrawG.mk (List.replicate 60 false)); · decide +kernel)
        | (with_reducible first | refine NewP.mk (fun id hid => ?_) | refine NilP.mk (fun e he => ?_))
        | (with_reducible first | exact trivial | exact And.intro rfl rfl)
        | ((with_reducible apply PreP.mk); · exact ab_asked)
        | refine Exists.intro _ (PreP.mk (bytesOf_lst _) ?_)
        | refine PreP.mk (lenD_lst _) ?_
        | (with_reducible first | refine PreP.mk ?_ ?_ | refine BothP.mk ?_ ?_)
        | ((with_reducible apply AncOr.anc); · decide +kernel)
        | with_reducible refine AncOr.go ?_)
      have g1 := nth_lt h4.row
      have g2 := nth_lt h4.map
      have g3 := nth_lt d4
      by_cases hin4 : b.seq ∈ l.map (·.seq)
      · refine CallOK.go (c15gin h4 hin4) (fun r2 H5 hr5 => ?_)
        obtain ⟨⟨b5, hb5, hbs5, rfl⟩, he5⟩ := hr5
        rw [he5]; clear he5 H5
        repeat' (first
          | ((with_reducible apply Onw.mk); conv => whnf)
          | (with_reducible first | apply Br.tt | apply Br.ff | apply Br.no)
          | ((with_reducible apply Br.t); · assumption)
          | ((with_reducible apply Br.f); · assumption)
          | ((with_reducible apply Br.dt); · exact ab_known)
          | ((with_reducible apply Br.df); · exact ab_known)
          | (with_reducible first | refine Br.dec (fun hc => ?_) (fun hc => ?_) | refine Br.mk (fun hc => ?_) (fun hc => ?_))
          | (refine PreP.mk hrp ?_)
          | (refine EqP.mk hri ?_)
          | ((with_reducible first | apply NeedRows.mk | apply NeedMap.mk | apply NeedIter.mk); · exact ab_look)
          | ((with_reducible apply NeedLen.mk); · first | assumption | rfl)
          | ((with_reducible apply NeedRow.mk); · exact ab_lookR)
          | ((with_reducible apply DrawG.mk (List.replicate 60 false)); · decide +kernel)
          | (with_reducible first | refine NewP.mk (fun id hid => ?_) | refine NilP.mk (fun e he => ?_))
          | (with_reducible first | exact trivial | exact And.intro rfl rfl)
          | ((with_reducible apply PreP.mk); · exact ab_asked)
          | refine Exists.intro _ (PreP.mk (bytesOf_lst _) ?_)
          | refine PreP.mk (lenD_lst _) ?_
          | (with_reducible first | refine PreP.mk ?_ ?_ | refine BothP.mk ?_ ?_)
          | ((with_reducible apply AncOr.anc); · decide +kernel)
          | with_reducible refine AncOr.go ?_)
        refine CallOK.go (c16 _ dm (allB l) low (nth_setN_ne (by omega) (nth_app d4)) (by rw [allB_len]; exact hlen4) _) (fun r2 H5 hr5 => ?_)
        obtain ⟨rfl, he5⟩ := hr5
        rw [he5]; clear he5 H5
        obtain ⟨b6, hb6, hbs6, hg6⟩ := getD_in (L := allB l) (n := b.seq) ((all_keys _).2 hin4)
        obtain rfl : b6 = b5 := seq_unique h4.keys (all_mem hb6) hb5 (by rw [hbs6, hbs5])
        have heqb : eqB b6 b6 = true := (eqB_iff _ _).2 rfl
        have hf6 := (h4.good b6 hb5).toFitsB
        rw [show getD (allB l) (b, lo).1.seq = _ from hg6]
        repeat' (first
          | ((with_reducible apply Onw.mk); conv => whnf)
          | (with_reducible first | apply Br.tt | apply Br.ff | apply Br.no)
          | ((with_reducible apply Br.t); · assumption)
          | ((with_reducible apply Br.f); · assumption)
          | ((with_reducible apply Br.dt); · exact ab_known)
          | ((with_reducible apply Br.df); · exact ab_known)
          | (with_reducible first | refine Br.dec (fun hc => ?_) (fun hc => ?_) | refine Br.mk (fun hc => ?_) (fun hc => ?_))
          | (refine CallOK.go (c17 _ b6 b6 hf6) (fun r2 H2 hr2 => ?_); obtain ⟨rfl, he2⟩ := hr2; rw [he2]; clear he2 H2)
          | (refine DetCall.go (c17 _ b6 b6 hf6) ?_)
          | (refine PreP.mk hrp ?_)
          | (refine EqP.mk hri ?_)
          | ((with_reducible first | apply NeedRows.mk | apply NeedMap.mk | apply NeedIter.mk); · exact ab_look)
          | ((with_reducible apply NeedLen.mk); · first | assumption | rfl)
          | ((with_reducible apply NeedRow.mk); · exact ab_lookR)
          | ((with_reducible apply DrawG.mk (List.replicate 60 false)); · decide +kernel)
          | (with_reducible first | refine NewP.mk (fun id hid => ?_) | refine NilP.mk (fun e he => ?_))
          | (with_reducible first | exact trivial | exact And.intro rfl rfl)
          | ((with_reducible apply PreP.mk); · exact ab_asked)
          | refine Exists.intro _ (PreP.mk (bytesOf_lst _) ?_)
          | refine PreP.mk (lenD_lst _) ?_
          | (with_reducible first | refine PreP.mk ?_ ?_ | refine BothP.mk ?_ ?_)
          | ((with_reducible apply AncOr.anc); · decide +kernel)
          | with_reducible refine AncOr.go ?_)
        refine Run.walk hm Try.func3 100 ?_
        repeat' (first
          | ((with_reducible apply Onw.mk); conv => whnf)
          | (with_reducible first | apply Br.tt | apply Br.ff | apply Br.no)
          | ((with_reducible apply Br.t); · assumption)
          | ((with_reducible apply Br.f); · assumption)
          | ((with_reducible apply Br.dt); · exact ab_known)
          | ((with_reducible apply Br.df); · exact ab_known)
          | (with_reducible first | refine Br.dec (fun hc => ?_) (fun hc => ?_) | refine Br.mk (fun hc => ?_) (fun hc => ?_))
          | (refine CallOK.go (c17 _ b6 b6 hf6) (fun r2 H2 hr2 => ?_); obtain ⟨rfl, he2⟩ := hr2; rw [he2]; clear he2 H2)
          | (refine DetCall.go (c17 _ b6 b6 hf6) ?_)
          | (refine PreP.mk hrp ?_)
          | (refine EqP.mk hri ?_)
          | ((with_reducible first | apply NeedRows.mk | apply NeedMap.mk | apply NeedIter.mk); · exact ab_look)
          | ((with_reducible apply NeedLen.mk); · first | assumption | rfl)
          | ((with_reducible apply NeedRow.mk); · exact ab_lookR)
          | ((with_reducible apply DrawG.mk (List.replicate 60 false)); · decide +kernel)
          | (with_reducible first | refine NewP.mk (fun id hid => ?_) | refine NilP.mk (fun e he => ?_))
          | (with_reducible first | exact trivial | exact And.intro rfl rfl)
          | ((with_reducible apply PreP.mk); · exact ab_asked)
          | refine Exists.intro _ (PreP.mk (bytesOf_lst _) ?_)
          | refine PreP.mk (lenD_lst _) ?_
          | (with_reducible first | refine PreP.mk ?_ ?_ | refine BothP.mk ?_ ?_)
          | ((with_reducible apply AncOr.anc); · decide +kernel)
          | with_reducible refine AncOr.go ?_)
        rw [setN_length, List.length_append] at hid
        refine Run.keep _ ?_ (ih (i + 1) _ _ (by omega) ⟨l, _, _, low, rfl, h4.keep (by rw [h4.row]; exact nth_setN_ne (by omega) (nth_app (nth_setN_ne (by omega) (nth_app h4.row)))) (by rw [h4.map]; exact nth_setN_ne (by omega) (nth_app (nth_setN_ne (by omega) (nth_app h4.map)))), nth_setN_ne (by omega) (nth_app (nth_setN_ne (by omega) (nth_app d4))), hlow, hlow2, hlz, hll4, by omega⟩)
        exact ⟨rfl, rfl, rfl, congrArg (fun x => some (i64 x)) wi, trivial⟩
      · refine CallOK.go (c15gout h4 hin4) (fun r2 H5 hr5 => ?_)
        obtain ⟨rfl, he5⟩ := hr5
        rw [he5]; clear he5 H5
        repeat' (first
          | ((with_reducible apply Onw.mk); conv => whnf)
          | (with_reducible first | apply Br.tt | apply Br.ff | apply Br.no)
          | ((with_reducible apply Br.t); · assumption)
          | ((with_reducible apply Br.f); · assumption)
          | ((with_reducible apply Br.dt); · exact ab_known)
          | ((with_reducible apply Br.df); · exact ab_known)
          | (with_reducible first | refine Br.dec (fun hc => ?_) (fun hc => ?_) | refine Br.mk (fun hc => ?_) (fun hc => ?_))
          | (refine PreP.mk hrp ?_)
          | (refine EqP.mk hri ?_)
          | ((with_reducible first | apply NeedRows.mk | apply NeedMap.mk | apply NeedIter.mk); · exact ab_look)
          | ((with_reducible apply NeedLen.mk); · first | assumption | rfl)
          | ((with_reducible apply NeedRow.mk); · exact ab_lookR)
          | ((with_reducible apply DrawG.mk (List.replicate 60 false)); · decide +kernel)
          | (with_reducible first | refine NewP.mk (fun id hid => ?_) | refine NilP.mk (fun e he => ?_))
          | (with_reducible first | exact trivial | exact And.intro rfl rfl)
          | ((with_reducible apply PreP.mk); · exact ab_asked)
          | refine Exists.intro _ (PreP.mk (bytesOf_lst _) ?_)
          | refine PreP.mk (lenD_lst _) ?_
          | (with_reducible first | refine PreP.mk ?_ ?_ | refine BothP.mk ?_ ?_)
          | ((with_reducible apply AncOr.anc); · decide +kernel)
          | with_reducible refine AncOr.go ?_)
        refine CallOK.go (c16 _ dm (allB l) low (nth_setN_ne (by omega) (nth_app d4)) (by rw [allB_len]; exact hlen4) _) (fun r2 H5 hr5 => ?_)
        obtain ⟨rfl, he5⟩ := hr5
        rw [he5]; clear he5 H5
        rw [show getD (allB l) (b, lo).1.seq = _ from getD_out (fun q => hin4 ((all_keys _).1 q))]
        repeat' (first
          | ((with_reducible apply Onw.mk); conv => whnf)
          | (with_reducible first | apply Br.tt | apply Br.ff | apply Br.no)
          | ((with_reducible apply Br.t); · assumption)
          | ((with_reducible apply Br.f); · assumption)
          | ((with_reducible apply Br.dt); · exact ab_known)
          | ((with_reducible apply Br.df); · exact ab_known)
          | (with_reducible first | refine Br.dec (fun hc => ?_) (fun hc => ?_) | refine Br.mk (fun hc => ?_) (fun hc => ?_))
          | (refine PreP.mk hrp ?_)
          | (refine EqP.mk hri ?_)
          | ((with_reducible first | apply NeedRows.mk | apply NeedMap.mk | apply NeedIter.mk); · exact ab_look)
          | ((with_reducible apply NeedLen.mk); · first | assumption | rfl)
          | ((with_reducible apply NeedRow.mk); · exact ab_lookR)
          | ((with_reducible apply DrawG.mk (List.replicate 60 false)); · decide +kernel)
          | (with_reducible first | refine NewP.mk (fun id hid => ?_) | refine NilP.mk (fun e he => ?_))
          | (with_reducible first | exact trivial | exact And.intro rfl rfl)
          | ((with_reducible apply PreP.mk); · exact ab_asked)
          | refine Exists.intro _ (PreP.mk (bytesOf_lst _) ?_)
          | refine PreP.mk (lenD_lst _) ?_
          | (with_reducible first | refine PreP.mk ?_ ?_ | refine BothP.mk ?_ ?_)
          | ((with_reducible apply AncOr.anc); · decide +kernel)
          | with_reducible refine AncOr.go ?_)
        refine Run.walk hm Try.func3 100 ?_
        repeat' (first
          | ((with_reducible apply Onw.mk); conv => whnf)
          | (with_reducible first | apply Br.tt | apply Br.ff | apply Br.no)
          | ((with_reducible apply Br.t); · assumption)
          | ((with_reducible apply Br.f); · assumption)
          | ((with_reducible apply Br.dt); · exact ab_known)
          | ((with_reducible apply Br.df); · exact ab_known)
          | (with_reducible first | refine Br.dec (fun hc => ?_) (fun hc => ?_) | refine Br.mk (fun hc => ?_) (fun hc => ?_))
          | (refine PreP.mk hrp ?_)
          | (refine EqP.mk hri ?_)
          | ((with_reducible first | apply NeedRows.mk | apply NeedMap.mk | apply NeedIter.mk); · exact ab_look)
          | ((with_reducible apply NeedLen.mk); · first | assumption | rfl)
          | ((with_reducible apply NeedRow.mk); · exact ab_lookR)
          | ((with_reducible apply DrawG.mk (List.replicate 60 false)); · decide +kernel)
          | (with_reducible first | refine NewP.mk (fun id hid => ?_) | refine NilP.mk (fun e he => ?_))
          | (with_reducible first | exact trivial | exact And.intro rfl rfl)
          | ((with_reducible apply PreP.mk); · exact ab_asked)
          | refine Exists.intro _ (PreP.mk (bytesOf_lst _) ?_)
          | refine PreP.mk (lenD_lst _) ?_
          | (with_reducible first | refine PreP.mk ?_ ?_ | refine BothP.mk ?_ ?_)
          | ((with_reducible apply AncOr.anc); · decide +kernel)
          | with_reducible refine AncOr.go ?_)
        rw [setN_length, List.length_append] at hid
        refine Run.keep _ ?_ (ih (i + 1) _ _ (by omega) ⟨l, _, _, low, rfl, h4.keep (by rw [h4.row]; exact nth_setN_ne (by omega) (nth_app (nth_setN_ne (by omega) (nth_app h4.row)))) (by rw [h4.map]; exact nth_setN_ne (by omega) (nth_app (nth_setN_ne (by omega) (nth_app h4.map)))), nth_setN_ne (by omega) (nth_app (nth_setN_ne (by omega) (nth_app d4))), hlow, hlow2, hlz, hll4, by omega⟩)
        exact ⟨rfl, rfl, rfl, congrArg (fun x => some (i64 x)) wi, trivial⟩

end Go.Proofs.Ytjlhkbikconboaa
