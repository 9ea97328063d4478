/- What functions of the receiver, of labels, rows, batches, and of the laws over them, do. Conditions: those that each theorem names. -/
import Derived.Test.YtjlhkbikconboaaQ11
import Derived.Test.YtjlhkbikconboaaR1
import Derived.Test.YtjlhkbikconboaaKc
set_option linter.unusedVariables false
set_option linter.unusedSimpArgs false
namespace Go.Proofs.Ytjlhkbikconboaa
open Go.Ab
set_option maxRecDepth 100000
set_option maxHeartbeats 1000000
attribute [local irreducible] Run CallOK DetCall Br PreP BothP AncOr Onw NeedRows NeedMap NeedRow NeedLen NilP NeedIter RoundP EntryP EqP OptP NewP NewSlice NewMade AppTo DrawG anc drawB
def pairsD (l : List Pair) : List (List D) := (l.map pairRow).map (·.map D.p)
theorem pairsD_len {l : List Pair} {r : List D} (h : r ∈ pairsD l) : r.length = 2 := by
  unfold pairsD at h
  obtain ⟨x, hx, rfl⟩ := List.mem_map.1 h
  obtain ⟨y, _, rfl⟩ := List.mem_map.1 hx
  rfl
theorem pairsD_one {l : List Pair} {r : List D} (h : r ∈ pairsD l) : ∀ d ∈ r, isOne d = true := by
  unfold pairsD at h
  obtain ⟨x, hx, rfl⟩ := List.mem_map.1 h
  obtain ⟨y, _, rfl⟩ := List.mem_map.1 hx
  intro d hd
  simp [pairRow] at hd
  rcases hd with rfl | rfl <;> rfl
theorem pairsD_length (l : List Pair) : (pairsD l).length = l.length := by unfold pairsD; simp
theorem c36 (H : Heap) (l : List Pair) (hl : l.length ≤ 1000) : CallOK Try.prog 36 [.p (.lst (l.map pairRow))] H (fun r H' => r = .p (.lst (l.map pairRow)) ∧ H' = H) := by
  refine (CallOK.frozen (Q := fun ps => ps = l.map pairRow) (CallOK.of_spec ?_)).mono (fun r H' hr => by obtain ⟨rfl, ps, rfl, rfl⟩ := hr; exact ⟨rfl, rfl⟩)
  refine Ab.Spec.walk hm Try.func36 (by kernel_rfl) 100 ?_
  repeat' (first
    | ((with_reducible apply Onw.mk); conv => whnf)
    | (with_reducible first | apply Br.tt | apply Br.ff | apply Br.no)
    | ((with_reducible apply Br.t); · assumption)
    | ((with_reducible apply Br.f); · assumption)
    | ((with_reducible apply Br.dt); · exact ab_known)
    | ((with_reducible apply Br.df); · exact ab_known)
    | (with_reducible first | refine Br.dec (fun hc => ?_) (fun hc => ?_) | refine Br.mk (fun hc => ?_) (fun hc => ?_))
    | ((with_reducible first | apply NeedRows.mk | apply NeedMap.mk | apply NeedIter.mk); · exact ab_look)
    | ((with_reducible apply NeedLen.mk); · first | assumption | rfl)
    | ((with_reducible apply NeedRow.mk); · exact ab_lookR)
    | ((with_reducible apply DrawG.mk (List.replicate 60 false)); · decide +kernel)
    | (with_reducible first | refine NewP.mk (fun id hid => ?_) | refine NilP.mk (fun e he => ?_))
    | (with_reducible first | exact trivial | exact And.intro rfl rfl)
    | ((with_reducible apply PreP.mk); · exact ab_asked)
    | refine Exists.intro _ (PreP.mk (bytesOf_lst _) ?_)
    | refine PreP.mk (lenD_lst _) ?_
    | (with_reducible first | refine PreP.mk ?_ ?_ | refine BothP.mk ?_ ?_)
    | ((with_reducible apply AncOr.anc); · decide +kernel)
    | with_reducible refine AncOr.go ?_)
  · have h0 : l = [] := by
      rcases Nat.eq_zero_or_pos l.length with h | h
      · exact List.length_eq_zero_iff.1 h
      · have := he (by simpa using h)
        subst this; cases hc
    subst h0
    exact ⟨⟨[], by simp⟩, [], rfl, .inr (.inl ⟨rfl, .inr rfl⟩)⟩
  refine NewSlice.own (fun id2 hid2 => ?_)
  repeat' (first
    | ((with_reducible apply Onw.mk); conv => whnf)
    | (with_reducible first | apply Br.tt | apply Br.ff | apply Br.no)
    | ((with_reducible apply Br.t); · assumption)
    | ((with_reducible apply Br.f); · assumption)
    | ((with_reducible apply Br.dt); · exact ab_known)
    | ((with_reducible apply Br.df); · exact ab_known)
    | (with_reducible first | refine Br.dec (fun hc => ?_) (fun hc => ?_) | refine Br.mk (fun hc => ?_) (fun hc => ?_))
    | ((with_reducible first | apply NeedRows.mk | apply NeedMap.mk | apply NeedIter.mk); · exact ab_look)
    | ((with_reducible apply NeedLen.mk); · first | assumption | rfl)
    | ((with_reducible apply NeedRow.mk); · exact ab_lookR)
    | ((with_reducible apply DrawG.mk (List.replicate 60 false)); · decide +kernel)
    | (with_reducible first | refine NewP.mk (fun id hid => ?_) | refine NilP.mk (fun e he => ?_))
    | (with_reducible first | exact trivial | exact And.intro rfl rfl)
    | ((with_reducible apply PreP.mk); · exact ab_asked)
    | refine Exists.intro _ (PreP.mk (bytesOf_lst _) ?_)
    | refine PreP.mk (lenD_lst _) ?_
    | (with_reducible first | refine PreP.mk ?_ ?_ | refine BothP.mk ?_ ?_)
    | ((with_reducible apply AncOr.anc); · decide +kernel)
    | with_reducible refine AncOr.go ?_)
  · exact (⟨by rw [Nat.zero_add, pairsD_length]; unfold maxRoom; omega, by rw [Nat.zero_add, pairsD_length]; unfold maxS; omega, fun r hr => pairsD_len hr, fun r hr => pairsD_one hr, by simp⟩ : (0 + (pairsD l).length) * 32 ≤ maxRoom ∧ 0 + (pairsD l).length ≤ maxS ∧ (∀ r ∈ pairsD l, r.length = 2) ∧ (∀ r ∈ pairsD l, ∀ d ∈ r, isOne d = true) ∧ 0 + 0 ≤ ([] : List (List D)).length)
  refine AppTo.cap (fun hle => ?_) (fun hgt id3 hid3 => ?_)
  · have h0 : l = [] := by cases l <;> simp_all
    subst h0
    repeat' (first
      | ((with_reducible apply Onw.mk); conv => whnf)
      | (with_reducible first | apply Br.tt | apply Br.ff | apply Br.no)
      | ((with_reducible apply Br.t); · assumption)
      | ((with_reducible apply Br.f); · assumption)
      | ((with_reducible apply Br.dt); · exact ab_known)
      | ((with_reducible apply Br.df); · exact ab_known)
      | (with_reducible first | refine Br.dec (fun hc => ?_) (fun hc => ?_) | refine Br.mk (fun hc => ?_) (fun hc => ?_))
      | ((with_reducible first | apply NeedRows.mk | apply NeedMap.mk | apply NeedIter.mk); · exact ab_look)
      | ((with_reducible apply NeedLen.mk); · first | assumption | rfl)
      | ((with_reducible apply NeedRow.mk); · exact ab_lookR)
      | ((with_reducible apply DrawG.mk (List.replicate 60 false)); · decide +kernel)
      | (with_reducible first | refine NewP.mk (fun id hid => ?_) | refine NilP.mk (fun e he => ?_))
      | (with_reducible first | exact trivial | exact And.intro rfl rfl)
      | ((with_reducible apply PreP.mk); · exact ab_asked)
      | refine Exists.intro _ (PreP.mk (bytesOf_lst _) ?_)
      | refine PreP.mk (lenD_lst _) ?_
      | (with_reducible first | refine PreP.mk ?_ ?_ | refine BothP.mk ?_ ?_)
      | ((with_reducible apply AncOr.anc); · decide +kernel)
      | with_reducible refine AncOr.go ?_)
    exact ⟨⟨_, setN_last hid2⟩, [], rfl, .inr (.inl ⟨rfl, .inl ⟨_, _, _, _, by simp [mkRes]; first | rfl | exact ⟨rfl, rfl, rfl, rfl⟩⟩⟩)⟩
  · repeat' (first
    | ((with_reducible apply Onw.mk); conv => whnf)
    | (with_reducible first | apply Br.tt | apply Br.ff | apply Br.no)
    | ((with_reducible apply Br.t); · assumption)
    | ((with_reducible apply Br.f); · assumption)
    | ((with_reducible apply Br.dt); · exact ab_known)
    | ((with_reducible apply Br.df); · exact ab_known)
    | (with_reducible first | refine Br.dec (fun hc => ?_) (fun hc => ?_) | refine Br.mk (fun hc => ?_) (fun hc => ?_))
    | ((with_reducible first | apply NeedRows.mk | apply NeedMap.mk | apply NeedIter.mk); · exact ab_look)
    | ((with_reducible apply NeedLen.mk); · first | assumption | rfl)
    | ((with_reducible apply NeedRow.mk); · exact ab_lookR)
    | ((with_reducible apply DrawG.mk (List.replicate 60 false)); · decide +kernel)
    | (with_reducible first | refine NewP.mk (fun id hid => ?_) | refine NilP.mk (fun e he => ?_))
    | (with_reducible first | exact trivial | exact And.intro rfl rfl)
    | ((with_reducible apply PreP.mk); · exact ab_asked)
    | refine Exists.intro _ (PreP.mk (bytesOf_lst _) ?_)
    | refine PreP.mk (lenD_lst _) ?_
    | (with_reducible first | refine PreP.mk ?_ ?_ | refine BothP.mk ?_ ?_)
    | ((with_reducible apply AncOr.anc); · decide +kernel)
    | with_reducible refine AncOr.go ?_)
    refine ⟨⟨_, List.append_assoc _ _ _⟩, l.map pairRow, rfl, .inl ⟨id3, 2, 0, none, pairsD l, by rw [hid3, List.length_append]; omega, ?_, nth_new hid3, ?_, fun r hr => ?_⟩⟩
    · show D.own id3 2 0 (0 + ((l.map pairRow).map (·.map D.p)).length) none = _
      simp
    · rw [List.drop_zero, List.take_of_length_le (by rw [pairsD_length, List.length_map]; exact Nat.le_refl _)]; rfl
    · obtain ⟨y, _, rfl⟩ := List.mem_map.1 hr; rfl
/-- Batches whose rows have few labels. -/
structure GoodB (b : Bt) : Prop extends FitsB b where
  few : ∀ r ∈ b.rows, r.ls.length ≤ 8
theorem GoodB.of_ok {b : Bt} (h : FitsB b) (ho : batchOK b = true) : GoodB b := by
  refine ⟨h, fun r hr => ?_⟩
  unfold batchOK rowsOK at ho
  simp only [Bool.and_eq_true, List.all_eq_true] at ho
  have := ho.2.2.2.1 r hr
  unfold rowOK labelsOK at this
  simp only [Bool.and_eq_true, decide_eq_true_eq] at this
  exact this.1.2
theorem q20 (b : Bt) (hb : GoodB b) (hne : b.rows ≠ []) (H : Heap) : Ab.Spec Try.prog 20 [.p (btP b)] H (fun r H' => r = .p (btP b) ∧ ∃ x, H' = H ++ x) := by
  have hn := hb.n
  refine Ab.Spec.walk hm Try.func20 (by kernel_rfl) 100 ?_
  repeat' (first
    | ((with_reducible apply Onw.mk); conv => whnf)
    | (with_reducible first | apply Br.tt | apply Br.ff | apply Br.no)
    | ((with_reducible apply Br.t); · assumption)
    | ((with_reducible apply Br.f); · assumption)
    | ((with_reducible apply Br.dt); · exact ab_known)
    | ((with_reducible apply Br.df); · exact ab_known)
    | (with_reducible first | refine Br.dec (fun hc => ?_) (fun hc => ?_) | refine Br.mk (fun hc => ?_) (fun hc => ?_))
    | ((with_reducible first | apply NeedRows.mk | apply NeedMap.mk | apply NeedIter.mk); · exact ab_look)
    | ((with_reducible apply NeedLen.mk); · first | assumption | rfl)
    | ((with_reducible apply NeedRow.mk); · exact ab_lookR)
    | ((with_reducible apply DrawG.mk (List.replicate 60 false)); · decide +kernel)
    | (with_reducible first | refine NewP.mk (fun id hid => ?_) | refine NilP.mk (fun e he => ?_))
    | (with_reducible first | exact trivial | exact And.intro rfl rfl)
    | ((with_reducible apply PreP.mk); · exact ab_asked)
    | refine Exists.intro _ (PreP.mk (bytesOf_lst _) ?_)
    | refine PreP.mk (lenD_lst _) ?_
    | (with_reducible first | refine PreP.mk ?_ ?_ | refine BothP.mk ?_ ?_)
    | ((with_reducible apply AncOr.anc); · decide +kernel)
    | with_reducible refine AncOr.go ?_)
  rename_i id1 hid1
  refine CallOK.go (CallOK.of_spec (q35 _ b.rows (by omega) hne)) (fun r2 H2 hr => ?_)
  obtain ⟨id3, rfl, hge, ⟨x, rfl⟩, hrow3⟩ := hr
  have hl1 : id1 = H.length := hid1
  have hl2 : id = H.length + 1 := by rw [hid, List.length_append]; rfl
  have hl3 : H.length + 2 ≤ id3 := by simpa using hge
  repeat' (first
    | ((with_reducible apply Onw.mk); conv => whnf)
    | (with_reducible first | apply Br.tt | apply Br.ff | apply Br.no)
    | ((with_reducible apply Br.t); · assumption)
    | ((with_reducible apply Br.f); · assumption)
    | ((with_reducible apply Br.dt); · exact ab_known)
    | ((with_reducible apply Br.df); · exact ab_known)
    | (with_reducible first | refine Br.dec (fun hc => ?_) (fun hc => ?_) | refine Br.mk (fun hc => ?_) (fun hc => ?_))
    | ((with_reducible first | apply NeedRows.mk | apply NeedMap.mk | apply NeedIter.mk); · exact ab_look)
    | ((with_reducible apply NeedLen.mk); · first | assumption | rfl)
    | ((with_reducible apply NeedRow.mk); · exact ab_lookR)
    | ((with_reducible apply DrawG.mk (List.replicate 60 false)); · decide +kernel)
    | (with_reducible first | refine NewP.mk (fun id hid => ?_) | refine NilP.mk (fun e he => ?_))
    | (with_reducible first | exact trivial | exact And.intro rfl rfl)
    | ((with_reducible apply PreP.mk); · exact ab_asked)
    | refine Exists.intro _ (PreP.mk (bytesOf_lst _) ?_)
    | refine PreP.mk (lenD_lst _) ?_
    | (with_reducible first | refine PreP.mk ?_ ?_ | refine BothP.mk ?_ ?_)
    | ((with_reducible apply AncOr.anc); · decide +kernel)
    | with_reducible refine AncOr.go ?_)
  have n13 : id1 ≠ id3 := by omega
  have n23 : id ≠ id3 := by omega
  have n12 : id1 ≠ id := by omega
  refine Run.keep [(1, .ptr id1 0 0), (2, .ptr id 0 0), (10, .own id3 3 0 b.rows.length none), (11, i64 b.rows.length), (12, i64 (0 : Nat))] ⟨rfl, rfl, rfl, rfl, rfl, trivial⟩ ?_
  refine Run.rounds (fun (i : Nat) T H2 => T = [(1, .ptr id1 0 0), (2, .ptr id 0 0), (10, .own id3 3 0 b.rows.length none), (11, i64 b.rows.length), (12, i64 i)] ∧
      nth H2 id1 = some (.rows [[.p (.int .i64 b.seq), .p (.int .i64 b.t), .p (.str b.g), .own id3 3 0 b.rows.length none]]) ∧ nth H2 id = some (.rows [[.p (.int .i64 0), .p (.int .i64 0), .p (.str []), .p .nil]]) ∧ nth H2 id3 = some (.rows (rowsD b.rows)) ∧ (∃ z, H2 = H ++ z) ∧ i ≤ b.rows.length) (fun i => b.rows.length - i) ?_ (x := 0)
      ⟨rfl, nth_setN_same (nth_app (nth_app (nth_new hid1))), nth_setN_ne (by omega) (nth_app (nth_new hid)), nth_setN_ne (by omega) hrow3, prefix_of (fun j o hj => by
        have := nth_lt hj
        exact nth_setN_ne (by omega) (nth_app (nth_app (nth_app hj)))), Nat.zero_le _⟩
  clear hrow3 hge hid hid1
  rintro i T H2 ⟨rfl, hr1, hr2, hr3, ⟨z, rfl⟩, hil⟩ ih
  have g1 := nth_lt hr1
  have g2 := nth_lt hr2
  have g3 := nth_lt hr3
  rcases Nat.lt_or_ge i b.rows.length with hi | hi
  · refine Run.walk hm Try.func20 100 ?_
    have hc1 : (i : Int) < (b.rows.length : Int) := by omega
    have wi : IntKind.i64.wrap ((i : Int) + 1) = ((i + 1 : Nat) : Int) := by rw [wrap64 (by omega) (by omega)]; omega
    obtain ⟨p, hp⟩ : ∃ p, b.rows[i]? = some p := ⟨_, List.getElem?_eq_getElem hi⟩
    have hp1 : (0 : Int) ≤ (i : Int) ∧ (i : Int) < (b.rows.length : Int) := by omega
    have hn1 : nth (rowsD b.rows) (0 + ((i : Int)).toNat) = some ((rowRow p).map D.p) := by
      have e : 0 + ((i : Int)).toNat = i := by omega
      rw [e]; exact nth_rowsD hp
    have hfew := hb.few p (List.mem_of_getElem? hp)
    repeat' (first
      | ((with_reducible apply Onw.mk); conv => whnf)
      | (with_reducible first | apply Br.tt | apply Br.ff | apply Br.no)
      | ((with_reducible apply Br.t); · assumption)
      | ((with_reducible apply Br.f); · assumption)
      | ((with_reducible apply Br.dt); · exact ab_known)
      | ((with_reducible apply Br.df); · exact ab_known)
      | (with_reducible first | refine Br.dec (fun hc => ?_) (fun hc => ?_) | refine Br.mk (fun hc => ?_) (fun hc => ?_))
      | (refine PreP.mk hp1 ?_)
      | (refine NeedRow.mk hn1 ?_)
      | (refine DetCall.go (c36 _ p.ls (by omega)) ?_)
      | ((with_reducible apply DrawG.len [false, false, false, false, false, false, false, false, true]); · decide +kernel)
      | ((with_reducible first | apply NeedRows.mk | apply NeedMap.mk | apply NeedIter.mk); · exact ab_look)
      | ((with_reducible apply NeedLen.mk); · first | assumption | rfl)
      | ((with_reducible apply NeedRow.mk); · exact ab_lookR)
      | ((with_reducible apply DrawG.mk (List.replicate 60 false)); · decide +kernel)
      | (with_reducible first | refine NewP.mk (fun id hid => ?_) | refine NilP.mk (fun e he => ?_))
      | (with_reducible first | exact trivial | exact And.intro rfl rfl)
      | ((with_reducible apply PreP.mk); · exact ab_asked)
      | refine Exists.intro _ (PreP.mk (bytesOf_lst _) ?_)
      | refine PreP.mk (lenD_lst _) ?_
      | (with_reducible first | refine PreP.mk ?_ ?_ | refine BothP.mk ?_ ?_)
      | ((with_reducible apply AncOr.anc); · decide +kernel)
      | with_reducible refine AncOr.go ?_)
    rename_i idz
    have e : setN (rowsD b.rows) (0 + ((i : Int)).toNat) ((rowRow p).map D.p) = rowsD b.rows := by rw [setN_eq]; exact set_self (by rw [← nth_eq]; exact hn1)
    refine Run.keep _ ?_ (ih (i + 1) _ _ (by omega) ⟨rfl, nth_setN_ne (by omega) (nth_setN_ne (by omega) (nth_app hr1)), nth_setN_ne (by omega) (nth_setN_ne (by omega) (nth_app hr2)),
      (nth_setN_same (nth_setN_ne (by omega) (nth_app hr3))).trans (congrArg (fun q => some (Ab.Obj.rows q)) e), prefix_of (fun j o hj => ?_), by omega⟩)
    · exact ⟨rfl, rfl, rfl, rfl, congrArg (fun x => some (i64 x)) wi, trivial⟩
    · have := nth_lt hj
      rw [List.length_append] at hid
      exact nth_setN_ne (by omega) (nth_setN_ne (by omega) (nth_app (nth_app hj)))
  · refine Run.frzCell id1 0 3 (ps := b.rows.map rowRow) hr1 rfl rfl n13 hr3 (by rw [List.drop_zero, List.take_of_length_le (by rw [rowsD_length]; exact Nat.le_refl _)]; rfl) (by simp) (fun r hr => by obtain ⟨y, _, rfl⟩ := List.mem_map.1 hr; rfl) ?_
    have hc1 : ¬ (i : Int) < (b.rows.length : Int) := by omega
    refine Run.walk hm Try.func20 100 ?_
    repeat' (first
      | ((with_reducible apply Onw.mk); conv => whnf)
      | (with_reducible first | apply Br.tt | apply Br.ff | apply Br.no)
      | ((with_reducible apply Br.t); · assumption)
      | ((with_reducible apply Br.f); · assumption)
      | ((with_reducible apply Br.dt); · exact ab_known)
      | ((with_reducible apply Br.df); · exact ab_known)
      | (with_reducible first | refine Br.dec (fun hc => ?_) (fun hc => ?_) | refine Br.mk (fun hc => ?_) (fun hc => ?_))
      | ((with_reducible first | apply NeedRows.mk | apply NeedMap.mk | apply NeedIter.mk); · exact ab_look)
      | ((with_reducible apply NeedLen.mk); · first | assumption | rfl)
      | ((with_reducible apply NeedRow.mk); · exact ab_lookR)
      | ((with_reducible apply DrawG.mk (List.replicate 60 false)); · decide +kernel)
      | (with_reducible first | refine NewP.mk (fun id hid => ?_) | refine NilP.mk (fun e he => ?_))
      | (with_reducible first | exact trivial | exact And.intro rfl rfl)
      | ((with_reducible apply PreP.mk); · exact ab_asked)
      | refine Exists.intro _ (PreP.mk (bytesOf_lst _) ?_)
      | refine PreP.mk (lenD_lst _) ?_
      | (with_reducible first | refine PreP.mk ?_ ?_ | refine BothP.mk ?_ ?_)
      | ((with_reducible apply AncOr.anc); · decide +kernel)
      | with_reducible refine AncOr.go ?_)
    refine ⟨rfl, prefix_of (fun j o hj => ?_)⟩
    have := nth_lt hj
    exact nth_setN_ne (by omega) (nth_setN_ne (by omega) (nth_setN_ne (by omega) (nth_app hj)))
theorem c20g (H : Heap) (b : Bt) (hb : GoodB b) : CallOK Try.prog 20 [.p (btP b)] H (fun r H' => r = .p (btP b) ∧ H' = H) := by
  by_cases hne : b.rows = []
  · have e : btP b = batG b.seq b.t b.g (.lst []) := by unfold btP batG; rw [hne]; rfl
    rw [e]; exact c20 H b.seq b.t b.g (.lst []) (.inr rfl)
  · exact (CallOK.trim (Q := fun r => r = .p (btP b)) ((CallOK.of_spec (q20 b hb hne H)).mono (fun _ _ hr => ⟨hr.2, by rw [hr.1]; rfl, hr.1⟩))).mono (fun _ _ hr => ⟨hr.2.2, hr.1⟩)
end Go.Proofs.Ytjlhkbikconboaa
