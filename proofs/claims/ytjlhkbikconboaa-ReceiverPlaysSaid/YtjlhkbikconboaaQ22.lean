/- What functions of the receiver, of labels, rows, batches, and of the laws over them, do. Conditions: those that each theorem names. -/
import Derived.Test.YtjlhkbikconboaaQ21
import Derived.Test.YtjlhkbikconboaaKc
set_option linter.unusedVariables false
set_option linter.unusedSimpArgs false
namespace Go.Proofs.Ytjlhkbikconboaa
open Go.Ab
set_option maxRecDepth 100000
set_option maxHeartbeats 1000000
attribute [local irreducible] Run CallOK DetCall Br PreP BothP AncOr Onw NeedRows NeedMap NeedRow NeedLen NilP NeedIter RoundP EntryP EqP OptP NewP NewSlice NewMade AppTo DrawG anc drawB
/-- The batches ahead of the place, and those from it on. -/
abbrev headD (L : List Bt) (i : Nat) : List (List D) := (List.drop (Int.toNat 0) (List.take (i : Int).toNat (L.map batRow))).map (·.map D.p)
theorem batRow_one {b : Bt} {d : D} (h : d ∈ (batRow b).map D.p) : isOne d = true := by
  simp [batRow] at h
  rcases h with rfl | rfl | rfl | rfl <;> rfl
theorem headD_len {L : List Bt} {i : Nat} (hi : i ≤ L.length) : (headD L i).length = i := by simp [headD]; omega
theorem headD_eq {L : List Bt} {i : Nat} : headD L i = ((L.take i).map batRow).map (·.map D.p) := by
  have e : (i : Int).toNat = i := by omega
  unfold headD; rw [e, List.map_take]; rfl
abbrev tailD (L : List Bt) (i : Nat) : List (List D) := (List.drop (i : Int).toNat (List.take ((L.map batRow).length : Int).toNat (L.map batRow))).map (·.map D.p)
abbrev oneD (b : Bt) : List (List D) := [batRow b].map (·.map D.p)
abbrev frontD (L : List Bt) (i : Nat) (b : Bt) : List (List D) := ((headD L i).drop 0).take (headD L i).length ++ oneD b
theorem tailD_eq {L : List Bt} {i : Nat} : tailD L i = ((L.drop i).map batRow).map (·.map D.p) := by
  have e : (i : Int).toNat = i := by omega
  have e2 : ((L.map batRow).length : Int).toNat = (L.map batRow).length := by omega
  unfold tailD; rw [e, e2, List.take_length, List.map_drop, List.map_drop, List.map_drop]
theorem frontD_eq {L : List Bt} {i : Nat} {b : Bt} : frontD L i b = ((L.take i ++ [b]).map batRow).map (·.map D.p) := by
  unfold frontD oneD
  rw [List.drop_zero, List.take_length, headD_eq, List.map_append, List.map_append]; rfl
theorem tailD_len4 {L : List Bt} {i : Nat} : ∀ r ∈ tailD L i, r.length = 4 := by
  rw [tailD_eq]
  intro r hr
  obtain ⟨x, hx, rfl⟩ := List.mem_map.1 hr
  obtain ⟨y, _, rfl⟩ := List.mem_map.1 hx
  rfl
theorem tailD_one {L : List Bt} {i : Nat} : ∀ r ∈ tailD L i, ∀ d ∈ r, isOne d = true := by
  rw [tailD_eq]
  intro r hr d hd
  obtain ⟨x, hx, rfl⟩ := List.mem_map.1 hr
  obtain ⟨y, _, rfl⟩ := List.mem_map.1 hx
  exact batRow_one hd
theorem s10bad (H : Heap) (m : Nat) (b : Bt) (hb : FitsB b) (lo : Int) (hno : letterOK b lo = false) :
    Ab.Spec Try.prog 10 [.ptr m 0 0, .p (letterP b lo)] H (fun res H' => res = .tup [i64 0, i64 12] ∧ ∃ x, H' = H ++ x) := by
  refine Ab.Spec.walk hm Try.func10 (by kernel_rfl) 100 ?_
  cases hbo : batchOK b with
  | false =>
    repeat' (first
      | ((with_reducible apply Onw.mk); conv => whnf)
      | (with_reducible first | apply Br.tt | apply Br.ff | apply Br.no)
      | ((with_reducible apply Br.t); · assumption)
      | ((with_reducible apply Br.f); · assumption)
      | ((with_reducible apply Br.dt); · exact ab_known)
      | ((with_reducible apply Br.df); · exact ab_known)
      | (with_reducible first | refine Br.dec (fun hc => ?_) (fun hc => ?_) | refine Br.mk (fun hc => ?_) (fun hc => ?_))
      | (refine CallOK.go (c18 _ b hb) (fun r2 H2 hr2 => ?_); obtain ⟨rfl, he2⟩ := hr2; rw [he2]; clear he2 H2)
      | (refine DetCall.go (c18 _ b hb) ?_)
      | ((with_reducible first | apply NeedRows.mk | apply NeedMap.mk | apply NeedIter.mk); · exact ab_look)
      | ((with_reducible apply NeedLen.mk); · first | assumption | rfl)
      | ((with_reducible apply NeedRow.mk); · exact ab_lookR)
      | ((with_reducible apply DrawG.mk (List.replicate 60 false)); · decide +kernel)
      | (with_reducible first | refine NewP.mk (fun id hid => ?_) | refine NilP.mk (fun e he => ?_))
      | (with_reducible first | exact trivial | exact And.intro rfl rfl)
      | ((with_reducible apply PreP.mk); · exact ab_asked)
      | refine Exists.intro _ (PreP.mk (bytesOf_lst _) ?_)
      | refine PreP.mk (lenD_lst _) ?_
      | (with_reducible first | refine PreP.mk ?_ ?_ | refine BothP.mk ?_ ?_)
      | ((with_reducible apply AncOr.anc); · decide +kernel)
      | with_reducible refine AncOr.go ?_)
    all_goals exact ⟨rfl, _, rfl⟩
  | true =>
    repeat' (first
      | ((with_reducible apply Onw.mk); conv => whnf)
      | (with_reducible first | apply Br.tt | apply Br.ff | apply Br.no)
      | ((with_reducible apply Br.t); · assumption)
      | ((with_reducible apply Br.f); · assumption)
      | ((with_reducible apply Br.dt); · exact ab_known)
      | ((with_reducible apply Br.df); · exact ab_known)
      | (with_reducible first | refine Br.dec (fun hc => ?_) (fun hc => ?_) | refine Br.mk (fun hc => ?_) (fun hc => ?_))
      | (refine CallOK.go (c18 _ b hb) (fun r2 H2 hr2 => ?_); obtain ⟨rfl, he2⟩ := hr2; rw [he2]; clear he2 H2)
      | (refine DetCall.go (c18 _ b hb) ?_)
      | ((with_reducible first | apply NeedRows.mk | apply NeedMap.mk | apply NeedIter.mk); · exact ab_look)
      | ((with_reducible apply NeedLen.mk); · first | assumption | rfl)
      | ((with_reducible apply NeedRow.mk); · exact ab_lookR)
      | ((with_reducible apply DrawG.mk (List.replicate 60 false)); · decide +kernel)
      | (with_reducible first | refine NewP.mk (fun id hid => ?_) | refine NilP.mk (fun e he => ?_))
      | (with_reducible first | exact trivial | exact And.intro rfl rfl)
      | ((with_reducible apply PreP.mk); · exact ab_asked)
      | refine Exists.intro _ (PreP.mk (bytesOf_lst _) ?_)
      | refine PreP.mk (lenD_lst _) ?_
      | (with_reducible first | refine PreP.mk ?_ ?_ | refine BothP.mk ?_ ?_)
      | ((with_reducible apply AncOr.anc); · decide +kernel)
      | with_reducible refine AncOr.go ?_)
    all_goals first
      | exact ⟨rfl, _, rfl⟩
      | (exfalso; unfold letterOK at hno; simp_all <;> omega)
theorem s10in (H : Heap) (m : Nat) (L : List Bt) (low : Int) (h : DocAt H m L low) (hL : L.length ≤ 1000000) (b : Bt) (hb : FitsB b) (lo : Int) (hok : letterOK b lo = true) (h7 : 0 ≤ low) (h8 : low ≤ 9223372036854775807) (h6 : b.seq ≤ 9223372036854775807)
    (hkp : ∀ k ∈ L.map (·.seq), 0 < k ∧ k ≤ 9223372036854775807) (hin : b.seq ∈ L.map (·.seq)) :
    Ab.Spec Try.prog 10 [.ptr m 0 0, .p (letterP b lo)] H (fun res H' => ∃ k, res = .tup [i64 k, i64 0] ∧ MarkIs (L.map (·.seq)) (if low < lo then lo else low) k ∧ DocAt H' m L (if low < lo then lo else low) ∧ Goes H [m] H' [m]) := by
  have hok2 := hok
  unfold letterOK at hok2
  simp only [Bool.and_eq_true, decide_eq_true_eq] at hok2
  obtain ⟨hbo, h4, h5⟩ := hok2
  have h4' : ¬ lo < 1 := by omega
  have h5' : ¬ b.seq < lo := by omega
  have h0 := h
  unfold DocAt at h0
  have hlt := nth_lt h0
  obtain ⟨b0, hb0, hbs0, hg⟩ := getD_in hin
  refine Ab.Spec.walk hm Try.func10 (by kernel_rfl) 100 ?_
  repeat' (first
    | ((with_reducible apply Onw.mk); conv => whnf)
    | (with_reducible first | apply Br.tt | apply Br.ff | apply Br.no)
    | ((with_reducible apply Br.t); · assumption)
    | ((with_reducible apply Br.f); · assumption)
    | ((with_reducible apply Br.dt); · exact ab_known)
    | ((with_reducible apply Br.df); · exact ab_known)
    | (with_reducible first | refine Br.dec (fun hc => ?_) (fun hc => ?_) | refine Br.mk (fun hc => ?_) (fun hc => ?_))
    | (refine CallOK.go (c18 _ b hb) (fun r2 H2 hr2 => ?_); obtain ⟨rfl, he2⟩ := hr2; rw [he2]; clear he2 H2)
    | (refine DetCall.go (c18 _ b hb) ?_)
    | ((with_reducible first | apply NeedRows.mk | apply NeedMap.mk | apply NeedIter.mk); · exact ab_look)
    | ((with_reducible apply NeedLen.mk); · first | assumption | rfl)
    | ((with_reducible apply NeedRow.mk); · exact ab_lookR)
    | ((with_reducible apply DrawG.mk (List.replicate 60 false)); · decide +kernel)
    | (with_reducible first | refine NewP.mk (fun id hid => ?_) | refine NilP.mk (fun e he => ?_))
    | (with_reducible first | exact trivial | exact And.intro rfl rfl)
    | ((with_reducible apply PreP.mk); · exact ab_asked)
    | refine Exists.intro _ (PreP.mk (bytesOf_lst _) ?_)
    | refine PreP.mk (lenD_lst _) ?_
    | (with_reducible first | refine PreP.mk ?_ ?_ | refine BothP.mk ?_ ?_)
    | ((with_reducible apply AncOr.anc); · decide +kernel)
    | with_reducible refine AncOr.go ?_)
  refine CallOK.go (c16 _ m L low (nth_app h0) hL _) (fun r2 H2 hr2 => ?_)
  obtain ⟨rfl, he2⟩ := hr2
  rw [he2]; clear he2 H2
  rw [hg]
  repeat' (first
    | ((with_reducible apply Onw.mk); conv => whnf)
    | (with_reducible first | apply Br.tt | apply Br.ff | apply Br.no)
    | ((with_reducible apply Br.t); · assumption)
    | ((with_reducible apply Br.f); · assumption)
    | ((with_reducible apply Br.dt); · exact ab_known)
    | ((with_reducible apply Br.df); · exact ab_known)
    | (with_reducible first | refine Br.dec (fun hc => ?_) (fun hc => ?_) | refine Br.mk (fun hc => ?_) (fun hc => ?_))
    | ((with_reducible apply DrawG.len [false, false, false, false, false, false, false, false, false, false, true]); · decide +kernel)
    | ((with_reducible first | apply NeedRows.mk | apply NeedMap.mk | apply NeedIter.mk); · exact ab_look)
    | ((with_reducible apply NeedLen.mk); · first | assumption | rfl)
    | ((with_reducible apply NeedRow.mk); · exact ab_lookR)
    | ((with_reducible apply DrawG.mk (List.replicate 60 false)); · decide +kernel)
    | (with_reducible first | refine NewP.mk (fun id hid => ?_) | refine NilP.mk (fun e he => ?_))
    | (with_reducible first | exact trivial | exact And.intro rfl rfl)
    | ((with_reducible apply PreP.mk); · exact ab_asked)
    | refine Exists.intro _ (PreP.mk (bytesOf_lst _) ?_)
    | refine PreP.mk (lenD_lst _) ?_
    | (with_reducible first | refine PreP.mk ?_ ?_ | refine BothP.mk ?_ ?_)
    | ((with_reducible apply AncOr.anc); · decide +kernel)
    | with_reducible refine AncOr.go ?_)
  rename_i id0 hid0
  rw [List.length_append] at hid
  simp only [List.length_cons, List.length_nil] at hid
  refine CallOK.go (c12 _ m L (if low < lo then lo else low) ?_ hL ?_ ?_ hkp ?_) (fun r2 H2 hr2 => ?_)
  · exact nth_setN_same (x := .rows [[.p (.lst (L.map batRow)), i64 low]]) ab_look
  · split <;> omega
  · split <;> omega
  · intro e; exfalso; split at e <;> omega
  obtain ⟨⟨k, rfl, hk⟩, he2⟩ := hr2
  rw [he2]; clear he2 H2
  repeat' (first
    | ((with_reducible apply Onw.mk); conv => whnf)
    | (with_reducible first | apply Br.tt | apply Br.ff | apply Br.no)
    | ((with_reducible apply Br.t); · assumption)
    | ((with_reducible apply Br.f); · assumption)
    | ((with_reducible apply Br.dt); · exact ab_known)
    | ((with_reducible apply Br.df); · exact ab_known)
    | (with_reducible first | refine Br.dec (fun hc => ?_) (fun hc => ?_) | refine Br.mk (fun hc => ?_) (fun hc => ?_))
    | ((with_reducible first | apply NeedRows.mk | apply NeedMap.mk | apply NeedIter.mk); · exact ab_look)
    | ((with_reducible apply NeedLen.mk); · first | assumption | rfl)
    | ((with_reducible apply NeedRow.mk); · exact ab_lookR)
    | ((with_reducible apply DrawG.mk (List.replicate 60 false)); · decide +kernel)
    | (with_reducible first | refine NewP.mk (fun id hid => ?_) | refine NilP.mk (fun e he => ?_))
    | (with_reducible first | exact trivial | exact And.intro rfl rfl)
    | ((with_reducible apply PreP.mk); · exact ab_asked)
    | refine Exists.intro _ (PreP.mk (bytesOf_lst _) ?_)
    | refine PreP.mk (lenD_lst _) ?_
    | (with_reducible first | refine PreP.mk ?_ ?_ | refine BothP.mk ?_ ?_)
    | ((with_reducible apply AncOr.anc); · decide +kernel)
    | with_reducible refine AncOr.go ?_)
  refine ⟨k, rfl, hk, nth_setN_same (x := .rows [[.p (.lst (L.map batRow)), i64 low]]) ab_look, ⟨fun j o hj ho => ?_, fun _ hj => .inl hj, by simp only [setN_length, List.length_append, List.length_cons, List.length_nil]; omega⟩⟩
  have hlj := nth_lt ho
  simp only [List.mem_cons, List.not_mem_nil, or_false] at hj
  exact nth_setN_ne (by omega) (nth_setN_ne (by omega) (nth_app (nth_app ho)))
theorem s10out (H : Heap) (m : Nat) (l : List Bt) (low : Int) (h : DocAt H m (allB l) low) (hL : (allB l).length ≤ 1000) (b : Bt) (hb : FitsB b) (lo : Int) (hok : letterOK b lo = true) (h7 : 0 ≤ low) (h8 : low ≤ 9223372036854775807) (h6 : b.seq ≤ 9223372036854775807)
    (hkp : ∀ k ∈ (allB (l ++ [b])).map (·.seq), 0 < k ∧ k ≤ 9223372036854775807) (hnd : ((l ++ [b]).map (·.seq)).Nodup) :
    Ab.Spec Try.prog 10 [.ptr m 0 0, .p (letterP b lo)] H (fun res H' => ∃ k, res = .tup [i64 k, i64 0] ∧ MarkIs ((allB (l ++ [b])).map (·.seq)) (if low < lo then lo else low) k ∧ DocAt H' m (allB (l ++ [b])) (if low < lo then lo else low) ∧ Goes H [m] H' [m]) := by
  have hok2 := hok
  unfold letterOK at hok2
  simp only [Bool.and_eq_true, decide_eq_true_eq] at hok2
  obtain ⟨hbo, h4, h5⟩ := hok2
  have h4' : ¬ lo < 1 := by omega
  have h5' : ¬ b.seq < lo := by omega
  have hnin : b.seq ∉ (allB l).map (·.seq) := fun q => by
    rw [all_keys] at q
    rw [List.map_append, List.nodup_append] at hnd
    exact hnd.2.2 _ q b.seq (by simp) rfl
  have hins := fun i => all_insert (l := l) (b := b) (i := i) hnd
  generalize hLe : allB l = L at *
  have h0 := h
  unfold DocAt at h0
  have hlt := nth_lt h0
  have hll : ((L.map batRow).length : Int) = L.length := by simp
  have hg := getD_out hnin
  refine Ab.Spec.walk hm Try.func10 (by kernel_rfl) 100 ?_
  repeat' (first
    | ((with_reducible apply Onw.mk); conv => whnf)
    | (with_reducible first | apply Br.tt | apply Br.ff | apply Br.no)
    | ((with_reducible apply Br.t); · assumption)
    | ((with_reducible apply Br.f); · assumption)
    | ((with_reducible apply Br.dt); · exact ab_known)
    | ((with_reducible apply Br.df); · exact ab_known)
    | (with_reducible first | refine Br.dec (fun hc => ?_) (fun hc => ?_) | refine Br.mk (fun hc => ?_) (fun hc => ?_))
    | (refine CallOK.go (c18 _ b hb) (fun r2 H2 hr2 => ?_); obtain ⟨rfl, he2⟩ := hr2; rw [he2]; clear he2 H2)
    | (refine DetCall.go (c18 _ b hb) ?_)
    | ((with_reducible first | apply NeedRows.mk | apply NeedMap.mk | apply NeedIter.mk); · exact ab_look)
    | ((with_reducible apply NeedLen.mk); · first | assumption | rfl)
    | ((with_reducible apply NeedRow.mk); · exact ab_lookR)
    | ((with_reducible apply DrawG.mk (List.replicate 60 false)); · decide +kernel)
    | (with_reducible first | refine NewP.mk (fun id hid => ?_) | refine NilP.mk (fun e he => ?_))
    | (with_reducible first | exact trivial | exact And.intro rfl rfl)
    | ((with_reducible apply PreP.mk); · exact ab_asked)
    | refine Exists.intro _ (PreP.mk (bytesOf_lst _) ?_)
    | refine PreP.mk (lenD_lst _) ?_
    | (with_reducible first | refine PreP.mk ?_ ?_ | refine BothP.mk ?_ ?_)
    | ((with_reducible apply AncOr.anc); · decide +kernel)
    | with_reducible refine AncOr.go ?_)
  refine CallOK.go (c16 _ m L low (nth_app h0) (by omega) _) (fun r2 H2 hr2 => ?_)
  obtain ⟨rfl, he2⟩ := hr2
  rw [he2]; clear he2 H2
  rw [hg]
  repeat' (first
    | ((with_reducible apply Onw.mk); conv => whnf)
    | (with_reducible first | apply Br.tt | apply Br.ff | apply Br.no)
    | ((with_reducible apply Br.t); · assumption)
    | ((with_reducible apply Br.f); · assumption)
    | ((with_reducible apply Br.dt); · exact ab_known)
    | ((with_reducible apply Br.df); · exact ab_known)
    | (with_reducible first | refine Br.dec (fun hc => ?_) (fun hc => ?_) | refine Br.mk (fun hc => ?_) (fun hc => ?_))
    | ((with_reducible first | apply NeedRows.mk | apply NeedMap.mk | apply NeedIter.mk); · exact ab_look)
    | ((with_reducible apply NeedLen.mk); · first | assumption | rfl)
    | ((with_reducible apply NeedRow.mk); · exact ab_lookR)
    | ((with_reducible apply DrawG.mk (List.replicate 60 false)); · decide +kernel)
    | (with_reducible first | refine NewP.mk (fun id hid => ?_) | refine NilP.mk (fun e he => ?_))
    | (with_reducible first | exact trivial | exact And.intro rfl rfl)
    | ((with_reducible apply PreP.mk); · exact ab_asked)
    | refine Exists.intro _ (PreP.mk (bytesOf_lst _) ?_)
    | refine PreP.mk (lenD_lst _) ?_
    | (with_reducible first | refine PreP.mk ?_ ?_ | refine BothP.mk ?_ ?_)
    | ((with_reducible apply AncOr.anc); · decide +kernel)
    | with_reducible refine AncOr.go ?_)
  rename_i id0 hid0
  rw [List.length_append] at hid
  simp only [List.length_cons, List.length_nil] at hid
  refine Run.keep [(0, .ptr m 0 0), (3, .ptr id0 0 0), (8, i64 (0 : Nat))] ⟨rfl, rfl, rfl, trivial⟩ ?_
  refine Run.rounds (fun (i : Nat) T H2 => T = [(0, .ptr m 0 0), (3, .ptr id0 0 0), (8, i64 i)] ∧ nth H2 m = some (.rows [[.p (.lst (L.map batRow)), i64 low]]) ∧ nth H2 id0 = some (.rows [[.p (.int .i64 b.seq), .p (.int .i64 b.t), .p (.str b.g), .p (.lst (b.rows.map rowRow)), .p (.int .i64 lo)]]) ∧ (∃ z, H2 = H ++ z) ∧ i ≤ L.length ∧
    (∀ k a, k < i → L[k]? = some a → a.seq < b.seq)) (fun i => L.length - i) ?_ (x := 0)
    ⟨rfl, nth_setN_ne (by omega) (nth_app (nth_app h0)), nth_setN_ne (by omega) (nth_app (nth_new hid0)), prefix_of (fun j o hj => by
      have := nth_lt hj
      exact nth_setN_ne (by omega) (nth_app (nth_app hj))), Nat.zero_le _, fun k a h => absurd h (Nat.not_lt_zero _)⟩
  have hid00 : H.length ≤ id0 := by omega
  clear hid hid0
  rintro i T H2 ⟨rfl, hr1, hr2, ⟨z, rfl⟩, hil, hall⟩ ih
  have g1 := nth_lt hr1
  have g2 := nth_lt hr2
  refine Run.walk hm Try.func10 100 ?_
  have stop : ∀ (hge : ∀ a, L[i]? = some a → ¬ a.seq < b.seq), L.take i ++ (b :: L.drop i) = allB (l ++ [b]) := fun hge => hins i hil hall hge
  rcases Nat.lt_or_ge i L.length with hi | hi
  · have hc1 : (i : Int) < ((L.map batRow).length : Int) := by rw [hll]; omega
    have wi : IntKind.i64.wrap ((i : Int) + 1) = ((i + 1 : Nat) : Int) := by rw [wrap64 (by omega) (by omega)]; omega
    obtain ⟨p, hp⟩ : ∃ p, L[i]? = some p := ⟨_, List.getElem?_eq_getElem hi⟩
    have hri : Ab.rowAt (L.map batRow) (i : Int).toNat = batRow p := rowAt_map hp
    have hrp : (0 : Int) ≤ (i : Int) ∧ (i : Int) < ((L.map batRow).length : Int) ∧ (Ab.rowAt (L.map batRow) (i : Int).toNat).length = 4 := ⟨by omega, hc1, by rw [hri]; rfl⟩
    by_cases hpb : p.seq < b.seq
    · repeat' (first
      | ((with_reducible apply Onw.mk); conv => whnf)
      | (with_reducible first | apply Br.tt | apply Br.ff | apply Br.no)
      | ((with_reducible apply Br.t); · assumption)
      | ((with_reducible apply Br.f); · assumption)
      | ((with_reducible apply Br.dt); · exact ab_known)
      | ((with_reducible apply Br.df); · exact ab_known)
      | (with_reducible first | refine Br.dec (fun hc => ?_) (fun hc => ?_) | refine Br.mk (fun hc => ?_) (fun hc => ?_))
      | (refine PreP.mk hrp ?_)
      | (refine EqP.mk hri ?_)
      | ((with_reducible first | apply NeedRows.mk | apply NeedMap.mk | apply NeedIter.mk); · exact ab_look)
      | ((with_reducible apply NeedLen.mk); · first | assumption | rfl)
      | ((with_reducible apply NeedRow.mk); · exact ab_lookR)
      | ((with_reducible apply DrawG.mk (List.replicate 60 false)); · decide +kernel)
      | (with_reducible first | refine NewP.mk (fun id hid => ?_) | refine NilP.mk (fun e he => ?_))
      | (with_reducible first | exact trivial | exact And.intro rfl rfl)
      | ((with_reducible apply PreP.mk); · exact ab_asked)
      | refine Exists.intro _ (PreP.mk (bytesOf_lst _) ?_)
      | refine PreP.mk (lenD_lst _) ?_
      | (with_reducible first | refine PreP.mk ?_ ?_ | refine BothP.mk ?_ ?_)
      | ((with_reducible apply AncOr.anc); · decide +kernel)
      | with_reducible refine AncOr.go ?_)
      refine Run.keep _ ?_ (ih (i + 1) _ _ (by omega) ⟨rfl, hr1, hr2, ⟨z, rfl⟩, by omega, fun k a h1 h2 => ?_⟩)
      · exact ⟨rfl, rfl, congrArg (fun x => some (i64 x)) wi, trivial⟩
      · rcases Nat.lt_or_ge k i with q | q
        · exact hall k a q h2
        · obtain rfl : k = i := by omega
          rw [hp] at h2; cases h2; exact hpb
    · have hst := stop (fun a ha => by rw [hp] at ha; cases ha; exact hpb)
      have hi0 : (i : Int).toNat = i := by omega
      have hs1 : (0 : Int) ≤ 0 ∧ (0 : Int) ≤ (i : Int) ∧ (i : Int) ≤ ((L.map batRow).length : Int) ∧ ∀ r ∈ L.map batRow, r.length = 4 := ⟨by omega, by omega, by rw [hll]; omega, fun r hr => by obtain ⟨y, _, rfl⟩ := List.mem_map.1 hr; rfl⟩
      have hx1l : ((List.drop (Int.toNat 0) (List.take (i : Int).toNat (L.map batRow))).map (·.map D.p)).length = i := by simp; omega
      have hx1m : ∀ r ∈ (List.drop (Int.toNat 0) (List.take (i : Int).toNat (L.map batRow))).map (·.map D.p), r.length = 4 := fun r hr => by
        obtain ⟨x, hx, rfl⟩ := List.mem_map.1 hr
        obtain ⟨y, _, rfl⟩ := List.mem_map.1 (List.mem_of_mem_take (List.mem_of_mem_drop hx))
        rfl
      have hs2 : ((List.drop (Int.toNat 0) (List.take (i : Int).toNat (L.map batRow))).map (·.map D.p)).length * 56 ≤ maxRoom ∧ ((List.drop (Int.toNat 0) (List.take (i : Int).toNat (L.map batRow))).map (·.map D.p)).length ≤ maxS ∧ ∀ r ∈ (List.drop (Int.toNat 0) (List.take (i : Int).toNat (L.map batRow))).map (·.map D.p), r.length = 4 := ⟨by rw [hx1l]; unfold maxRoom; omega, by rw [hx1l]; unfold maxS; omega, hx1m⟩
      repeat' (first
        | ((with_reducible apply Onw.mk); conv => whnf)
        | (with_reducible first | apply Br.tt | apply Br.ff | apply Br.no)
        | ((with_reducible apply Br.t); · assumption)
        | ((with_reducible apply Br.f); · assumption)
        | ((with_reducible apply Br.dt); · exact ab_known)
        | ((with_reducible apply Br.df); · exact ab_known)
        | (with_reducible first | refine Br.dec (fun hc => ?_) (fun hc => ?_) | refine Br.mk (fun hc => ?_) (fun hc => ?_))
        | (refine PreP.mk hrp ?_)
        | (refine EqP.mk hri ?_)
        | (refine PreP.mk hs1 ?_)
        | (refine PreP.mk hs2 ?_)
        | ((with_reducible apply DrawG.len [false, false, false, false, false, false, true, false, false, false, true, false]); · decide +kernel)
        | ((with_reducible first | apply NeedRows.mk | apply NeedMap.mk | apply NeedIter.mk); · exact ab_look)
        | ((with_reducible apply NeedLen.mk); · first | assumption | rfl)
        | ((with_reducible apply NeedRow.mk); · exact ab_lookR)
        | ((with_reducible apply DrawG.mk (List.replicate 60 false)); · decide +kernel)
        | (with_reducible first | refine NewP.mk (fun id hid => ?_) | refine NilP.mk (fun e he => ?_))
        | (with_reducible first | exact trivial | exact And.intro rfl rfl)
        | ((with_reducible apply PreP.mk); · exact ab_asked)
        | refine Exists.intro _ (PreP.mk (bytesOf_lst _) ?_)
        | refine PreP.mk (lenD_lst _) ?_
        | (with_reducible first | refine PreP.mk ?_ ?_ | refine BothP.mk ?_ ?_)
        | ((with_reducible apply AncOr.anc); · decide +kernel)
        | with_reducible refine AncOr.go ?_)
      refine NewSlice.own (fun id66 hid66 => ?_)
      have hs3 : ((headD L i).length + ([batRow b].map (·.map D.p)).length) * 56 ≤ maxRoom ∧ (headD L i).length + ([batRow b].map (·.map D.p)).length ≤ maxS ∧ (∀ r ∈ [batRow b].map (·.map D.p), r.length = 4) ∧ (∀ r ∈ [batRow b].map (·.map D.p), ∀ d ∈ r, isOne d = true) ∧ 0 + (headD L i).length ≤ (headD L i).length :=
        ⟨by rw [headD_len hil]; unfold maxRoom; simp; omega, by rw [headD_len hil]; unfold maxS; simp; omega, fun r hr => by simp at hr; subst hr; rfl, fun r hr d hd => by simp only [List.map_cons, List.map_nil, List.mem_singleton] at hr; subst hr; exact batRow_one hd, by omega⟩
      repeat' (first
        | ((with_reducible apply Onw.mk); conv => whnf)
        | (with_reducible first | apply Br.tt | apply Br.ff | apply Br.no)
        | ((with_reducible apply Br.t); · assumption)
        | ((with_reducible apply Br.f); · assumption)
        | ((with_reducible apply Br.dt); · exact ab_known)
        | ((with_reducible apply Br.df); · exact ab_known)
        | (with_reducible first | refine Br.dec (fun hc => ?_) (fun hc => ?_) | refine Br.mk (fun hc => ?_) (fun hc => ?_))
        | (refine NewSlice.lst [batRow b] rfl rfl (fun q hq => by simp at hq; subst hq; rfl) ?_)
        | (refine PreP.mk hs3 ?_)
        | ((with_reducible first | apply NeedRows.mk | apply NeedMap.mk | apply NeedIter.mk); · exact ab_look)
        | ((with_reducible apply NeedLen.mk); · first | assumption | rfl)
        | ((with_reducible apply NeedRow.mk); · exact ab_lookR)
        | ((with_reducible apply DrawG.mk (List.replicate 60 false)); · decide +kernel)
        | (with_reducible first | refine NewP.mk (fun id hid => ?_) | refine NilP.mk (fun e he => ?_))
        | (with_reducible first | exact trivial | exact And.intro rfl rfl)
        | ((with_reducible apply PreP.mk); · exact ab_asked)
        | refine Exists.intro _ (PreP.mk (bytesOf_lst _) ?_)
        | refine PreP.mk (lenD_lst _) ?_
        | (with_reducible first | refine PreP.mk ?_ ?_ | refine BothP.mk ?_ ?_)
        | ((with_reducible apply AncOr.anc); · decide +kernel)
        | with_reducible refine AncOr.go ?_)
      refine AppTo.new (fun id70 hid70 => ?_)
      have e70 : ((headD L i).drop 0).take (headD L i).length ++ [batRow b].map (·.map D.p) = ((L.take i ++ [b]).map batRow).map (·.map D.p) := by
        rw [List.drop_zero, List.take_length, headD_eq, List.map_append, List.map_append]; rfl
      have hs4 : (0 : Int) ≤ (i : Int) ∧ (i : Int) ≤ ((L.map batRow).length : Int) ∧ ((L.map batRow).length : Int) ≤ ((L.map batRow).length : Int) ∧ ∀ r ∈ L.map batRow, r.length = 4 := ⟨by omega, by rw [hll]; omega, by omega, hs1.2.2.2⟩
      have hl70 : nth (setN (H ++ z ++ [.rows (headD L i)]) id66 .gone ++ [.rows (frontD L i b)]) id70 = some (.rows (frontD L i b)) := nth_new (by rw [setN_length]; exact hid70)
      have fl : (frontD L i b).length = i + 1 := by rw [frontD_eq]; simp; omega
      have tl : (tailD L i).length = L.length - i := by rw [tailD_eq]; simp
      have ol : (oneD b).length = 1 := rfl
      have hs5 : ((headD L i).length + (oneD b).length + (tailD L i).length) * 56 ≤ maxRoom ∧ (headD L i).length + (oneD b).length + (tailD L i).length ≤ maxS ∧ (∀ r ∈ tailD L i, r.length = 4) ∧ (∀ r ∈ tailD L i, ∀ d ∈ r, isOne d = true) ∧ 0 + ((headD L i).length + (oneD b).length) ≤ (frontD L i b).length :=
        ⟨by rw [headD_len hil, ol, tl]; unfold maxRoom; omega, by rw [headD_len hil, ol, tl]; unfold maxS; omega, tailD_len4, tailD_one, by rw [headD_len hil, ol, fl]; omega⟩
      repeat' (first
        | ((with_reducible apply Onw.mk); conv => whnf)
        | (with_reducible first | apply Br.tt | apply Br.ff | apply Br.no)
        | ((with_reducible apply Br.t); · assumption)
        | ((with_reducible apply Br.f); · assumption)
        | ((with_reducible apply Br.dt); · exact ab_known)
        | ((with_reducible apply Br.df); · exact ab_known)
        | (with_reducible first | refine Br.dec (fun hc => ?_) (fun hc => ?_) | refine Br.mk (fun hc => ?_) (fun hc => ?_))
        | (refine PreP.mk hs5 ?_)
        | (refine PreP.mk hs4 ?_)
        | ((with_reducible apply DrawG.len [false, false, false, false, false, false, false, false, true, false, false, true]); · decide +kernel)
        | ((with_reducible first | apply NeedRows.mk | apply NeedMap.mk | apply NeedIter.mk); · exact ab_look)
        | ((with_reducible apply NeedLen.mk); · first | assumption | rfl)
        | ((with_reducible apply NeedRow.mk); · exact ab_lookR)
        | ((with_reducible apply DrawG.mk (List.replicate 60 false)); · decide +kernel)
        | (with_reducible first | refine NewP.mk (fun id hid => ?_) | refine NilP.mk (fun e he => ?_))
        | (with_reducible first | exact trivial | exact And.intro rfl rfl)
        | ((with_reducible apply PreP.mk); · exact ab_asked)
        | refine Exists.intro _ (PreP.mk (bytesOf_lst _) ?_)
        | refine PreP.mk (lenD_lst _) ?_
        | (with_reducible first | refine PreP.mk ?_ ?_ | refine BothP.mk ?_ ?_)
        | ((with_reducible apply AncOr.anc); · decide +kernel)
        | with_reducible refine AncOr.go ?_)
      refine AppTo.new (fun id79 hid79 => ?_)
      have l66 : id66 = (H ++ z).length := hid66
      have l70 : id70 = (H ++ z).length + 1 := by rw [hid70, List.length_append]; rfl
      have l79 : id79 = (H ++ z).length + 2 := by rw [hid79, List.length_append, setN_length, List.length_append]; rfl
      repeat' (first
        | ((with_reducible apply Onw.mk); conv => whnf)
        | (with_reducible first | apply Br.tt | apply Br.ff | apply Br.no)
        | ((with_reducible apply Br.t); · assumption)
        | ((with_reducible apply Br.f); · assumption)
        | ((with_reducible apply Br.dt); · exact ab_known)
        | ((with_reducible apply Br.df); · exact ab_known)
        | (with_reducible first | refine Br.dec (fun hc => ?_) (fun hc => ?_) | refine Br.mk (fun hc => ?_) (fun hc => ?_))
        | ((with_reducible apply DrawG.len [false, false, false, false, false, false, false, false, false, false, true]); · decide +kernel)
        | ((with_reducible first | apply NeedRows.mk | apply NeedMap.mk | apply NeedIter.mk); · exact ab_look)
        | ((with_reducible apply NeedLen.mk); · first | assumption | rfl)
        | ((with_reducible apply NeedRow.mk); · exact ab_lookR)
        | ((with_reducible apply DrawG.mk (List.replicate 60 false)); · decide +kernel)
        | (with_reducible first | refine NewP.mk (fun id hid => ?_) | refine NilP.mk (fun e he => ?_))
        | (with_reducible first | exact trivial | exact And.intro rfl rfl)
        | ((with_reducible apply PreP.mk); · exact ab_asked)
        | refine Exists.intro _ (PreP.mk (bytesOf_lst _) ?_)
        | refine PreP.mk (lenD_lst _) ?_
        | (with_reducible first | refine PreP.mk ?_ ?_ | refine BothP.mk ?_ ?_)
        | ((with_reducible apply AncOr.anc); · decide +kernel)
        | with_reducible refine AncOr.go ?_)
      have hlen : (allB (l ++ [b])).length = L.length + 1 := by rw [← hst]; simp; omega
      have e79 : ((frontD L i b).drop 0).take ((headD L i).length + (oneD b).length) ++ tailD L i = ((allB (l ++ [b])).map batRow).map (·.map D.p) := by
        rw [List.drop_zero, List.take_of_length_le (by rw [fl, headD_len hil, ol]; omega), frontD_eq, tailD_eq, ← List.map_append, ← List.map_append, ← hst]
        simp
      refine CallOK.frzCell m 0 0 (ps := (allB (l ++ [b])).map batRow) (nth_setN_same (nth_setN_same (nth_app (nth_setN_ne (by omega) (nth_app (nth_setN_ne (by omega) (nth_app hr1))))))) rfl rfl (by omega)
        (nth_setN_ne (by omega) (nth_setN_ne (by omega) (nth_new (by rw [setN_length]; exact hid79)))) ?_ ?_ (fun r hr => by obtain ⟨y, _, rfl⟩ := List.mem_map.1 hr; rfl) ?_
      · rw [List.drop_zero, List.take_of_length_le ?_]
        · exact e79
        · have this : _ = L.length + 1 := (congrArg List.length e79).trans (by rw [List.length_map, List.length_map, hlen])
          refine Nat.le_of_eq (this.trans ?_)
          show _ = (headD L i).length + (oneD b).length + (tailD L i).length
          rw [headD_len hil, ol, tl]; omega
      · show (headD L i).length + (oneD b).length + (tailD L i).length = _
        rw [headD_len hil, ol, tl, List.length_map, hlen]; omega
      refine CallOK.go (c12 _ m (allB (l ++ [b])) (if low < lo then lo else low) (nth_setN_same (nth_setN_ne (by omega) (nth_setN_same (nth_setN_same (nth_app (nth_setN_ne (by omega) (nth_app (nth_setN_ne (by omega) (nth_app hr1))))))))) (by omega) ?_ ?_ hkp ?_) (fun r2 H2 hr2 => ?_)
      · split <;> omega
      · split <;> omega
      · intro e; exfalso; split at e <;> omega
      obtain ⟨⟨k, rfl, hk⟩, he2⟩ := hr2
      rw [he2]; clear he2 H2
      repeat' (first
        | ((with_reducible apply Onw.mk); conv => whnf)
        | (with_reducible first | apply Br.tt | apply Br.ff | apply Br.no)
        | ((with_reducible apply Br.t); · assumption)
        | ((with_reducible apply Br.f); · assumption)
        | ((with_reducible apply Br.dt); · exact ab_known)
        | ((with_reducible apply Br.df); · exact ab_known)
        | (with_reducible first | refine Br.dec (fun hc => ?_) (fun hc => ?_) | refine Br.mk (fun hc => ?_) (fun hc => ?_))
        | ((with_reducible first | apply NeedRows.mk | apply NeedMap.mk | apply NeedIter.mk); · exact ab_look)
        | ((with_reducible apply NeedLen.mk); · first | assumption | rfl)
        | ((with_reducible apply NeedRow.mk); · exact ab_lookR)
        | ((with_reducible apply DrawG.mk (List.replicate 60 false)); · decide +kernel)
        | (with_reducible first | refine NewP.mk (fun id hid => ?_) | refine NilP.mk (fun e he => ?_))
        | (with_reducible first | exact trivial | exact And.intro rfl rfl)
        | ((with_reducible apply PreP.mk); · exact ab_asked)
        | refine Exists.intro _ (PreP.mk (bytesOf_lst _) ?_)
        | refine PreP.mk (lenD_lst _) ?_
        | (with_reducible first | refine PreP.mk ?_ ?_ | refine BothP.mk ?_ ?_)
        | ((with_reducible apply AncOr.anc); · decide +kernel)
        | with_reducible refine AncOr.go ?_)
      refine ⟨k, rfl, hk, nth_setN_same (nth_setN_ne (by omega) (nth_setN_same (nth_setN_same (nth_app (nth_setN_ne (by omega) (nth_app (nth_setN_ne (by omega) (nth_app hr1)))))))), ⟨fun j o hj ho => ?_, fun _ hj => .inl hj, by simp only [setN_length, List.length_append, List.length_cons, List.length_nil]; omega⟩⟩
      have hlj := nth_lt ho
      simp only [List.mem_cons, List.not_mem_nil, or_false] at hj
      have hz : (H ++ z).length = H.length + z.length := List.length_append
      exact nth_setN_ne (by omega) (nth_setN_ne (by omega) (nth_setN_ne (by omega) (nth_setN_ne (by omega) (nth_app (nth_setN_ne (by omega) (nth_app (nth_setN_ne (by omega) (nth_app (nth_app ho)))))))))
  · have hc1 : ¬ (i : Int) < ((L.map batRow).length : Int) := by rw [hll]; omega
    have hst := stop (fun a ha => by rw [List.getElem?_eq_none hi] at ha; cases ha)
    have hi0 : (i : Int).toNat = i := by omega
    have hs1 : (0 : Int) ≤ 0 ∧ (0 : Int) ≤ (i : Int) ∧ (i : Int) ≤ ((L.map batRow).length : Int) ∧ ∀ r ∈ L.map batRow, r.length = 4 := ⟨by omega, by omega, by rw [hll]; omega, fun r hr => by obtain ⟨y, _, rfl⟩ := List.mem_map.1 hr; rfl⟩
    have hx1l : ((List.drop (Int.toNat 0) (List.take (i : Int).toNat (L.map batRow))).map (·.map D.p)).length = i := by simp; omega
    have hx1m : ∀ r ∈ (List.drop (Int.toNat 0) (List.take (i : Int).toNat (L.map batRow))).map (·.map D.p), r.length = 4 := fun r hr => by
      obtain ⟨x, hx, rfl⟩ := List.mem_map.1 hr
      obtain ⟨y, _, rfl⟩ := List.mem_map.1 (List.mem_of_mem_take (List.mem_of_mem_drop hx))
      rfl
    have hs2 : ((List.drop (Int.toNat 0) (List.take (i : Int).toNat (L.map batRow))).map (·.map D.p)).length * 56 ≤ maxRoom ∧ ((List.drop (Int.toNat 0) (List.take (i : Int).toNat (L.map batRow))).map (·.map D.p)).length ≤ maxS ∧ ∀ r ∈ (List.drop (Int.toNat 0) (List.take (i : Int).toNat (L.map batRow))).map (·.map D.p), r.length = 4 := ⟨by rw [hx1l]; unfold maxRoom; omega, by rw [hx1l]; unfold maxS; omega, hx1m⟩
    repeat' (first
      | ((with_reducible apply Onw.mk); conv => whnf)
      | (with_reducible first | apply Br.tt | apply Br.ff | apply Br.no)
      | ((with_reducible apply Br.t); · assumption)
      | ((with_reducible apply Br.f); · assumption)
      | ((with_reducible apply Br.dt); · exact ab_known)
      | ((with_reducible apply Br.df); · exact ab_known)
      | (with_reducible first | refine Br.dec (fun hc => ?_) (fun hc => ?_) | refine Br.mk (fun hc => ?_) (fun hc => ?_))
      | (refine PreP.mk hs1 ?_)
      | (refine PreP.mk hs2 ?_)
      | ((with_reducible apply DrawG.len [false, false, false, false, false, false, true, false, false, false, true, false]); · decide +kernel)
      | ((with_reducible first | apply NeedRows.mk | apply NeedMap.mk | apply NeedIter.mk); · exact ab_look)
      | ((with_reducible apply NeedLen.mk); · first | assumption | rfl)
      | ((with_reducible apply NeedRow.mk); · exact ab_lookR)
      | ((with_reducible apply DrawG.mk (List.replicate 60 false)); · decide +kernel)
      | (with_reducible first | refine NewP.mk (fun id hid => ?_) | refine NilP.mk (fun e he => ?_))
      | (with_reducible first | exact trivial | exact And.intro rfl rfl)
      | ((with_reducible apply PreP.mk); · exact ab_asked)
      | refine Exists.intro _ (PreP.mk (bytesOf_lst _) ?_)
      | refine PreP.mk (lenD_lst _) ?_
      | (with_reducible first | refine PreP.mk ?_ ?_ | refine BothP.mk ?_ ?_)
      | ((with_reducible apply AncOr.anc); · decide +kernel)
      | with_reducible refine AncOr.go ?_)
    refine NewSlice.own (fun id66 hid66 => ?_)
    have hs3 : ((headD L i).length + ([batRow b].map (·.map D.p)).length) * 56 ≤ maxRoom ∧ (headD L i).length + ([batRow b].map (·.map D.p)).length ≤ maxS ∧ (∀ r ∈ [batRow b].map (·.map D.p), r.length = 4) ∧ (∀ r ∈ [batRow b].map (·.map D.p), ∀ d ∈ r, isOne d = true) ∧ 0 + (headD L i).length ≤ (headD L i).length :=
      ⟨by rw [headD_len hil]; unfold maxRoom; simp; omega, by rw [headD_len hil]; unfold maxS; simp; omega, fun r hr => by simp at hr; subst hr; rfl, fun r hr d hd => by simp only [List.map_cons, List.map_nil, List.mem_singleton] at hr; subst hr; exact batRow_one hd, by omega⟩
    repeat' (first
      | ((with_reducible apply Onw.mk); conv => whnf)
      | (with_reducible first | apply Br.tt | apply Br.ff | apply Br.no)
      | ((with_reducible apply Br.t); · assumption)
      | ((with_reducible apply Br.f); · assumption)
      | ((with_reducible apply Br.dt); · exact ab_known)
      | ((with_reducible apply Br.df); · exact ab_known)
      | (with_reducible first | refine Br.dec (fun hc => ?_) (fun hc => ?_) | refine Br.mk (fun hc => ?_) (fun hc => ?_))
      | (refine NewSlice.lst [batRow b] rfl rfl (fun q hq => by simp at hq; subst hq; rfl) ?_)
      | (refine PreP.mk hs3 ?_)
      | ((with_reducible first | apply NeedRows.mk | apply NeedMap.mk | apply NeedIter.mk); · exact ab_look)
      | ((with_reducible apply NeedLen.mk); · first | assumption | rfl)
      | ((with_reducible apply NeedRow.mk); · exact ab_lookR)
      | ((with_reducible apply DrawG.mk (List.replicate 60 false)); · decide +kernel)
      | (with_reducible first | refine NewP.mk (fun id hid => ?_) | refine NilP.mk (fun e he => ?_))
      | (with_reducible first | exact trivial | exact And.intro rfl rfl)
      | ((with_reducible apply PreP.mk); · exact ab_asked)
      | refine Exists.intro _ (PreP.mk (bytesOf_lst _) ?_)
      | refine PreP.mk (lenD_lst _) ?_
      | (with_reducible first | refine PreP.mk ?_ ?_ | refine BothP.mk ?_ ?_)
      | ((with_reducible apply AncOr.anc); · decide +kernel)
      | with_reducible refine AncOr.go ?_)
    refine AppTo.new (fun id70 hid70 => ?_)
    have e70 : ((headD L i).drop 0).take (headD L i).length ++ [batRow b].map (·.map D.p) = ((L.take i ++ [b]).map batRow).map (·.map D.p) := by
      rw [List.drop_zero, List.take_length, headD_eq, List.map_append, List.map_append]; rfl
    have hs4 : (0 : Int) ≤ (i : Int) ∧ (i : Int) ≤ ((L.map batRow).length : Int) ∧ ((L.map batRow).length : Int) ≤ ((L.map batRow).length : Int) ∧ ∀ r ∈ L.map batRow, r.length = 4 := ⟨by omega, by rw [hll]; omega, by omega, hs1.2.2.2⟩
    have hl70 : nth (setN (H ++ z ++ [.rows (headD L i)]) id66 .gone ++ [.rows (frontD L i b)]) id70 = some (.rows (frontD L i b)) := nth_new (by rw [setN_length]; exact hid70)
    have fl : (frontD L i b).length = i + 1 := by rw [frontD_eq]; simp; omega
    have tl : (tailD L i).length = L.length - i := by rw [tailD_eq]; simp
    have ol : (oneD b).length = 1 := rfl
    have hs5 : ((headD L i).length + (oneD b).length + (tailD L i).length) * 56 ≤ maxRoom ∧ (headD L i).length + (oneD b).length + (tailD L i).length ≤ maxS ∧ (∀ r ∈ tailD L i, r.length = 4) ∧ (∀ r ∈ tailD L i, ∀ d ∈ r, isOne d = true) ∧ 0 + ((headD L i).length + (oneD b).length) ≤ (frontD L i b).length :=
      ⟨by rw [headD_len hil, ol, tl]; unfold maxRoom; omega, by rw [headD_len hil, ol, tl]; unfold maxS; omega, tailD_len4, tailD_one, by rw [headD_len hil, ol, fl]; omega⟩
    repeat' (first
      | ((with_reducible apply Onw.mk); conv => whnf)
      | (with_reducible first | apply Br.tt | apply Br.ff | apply Br.no)
      | ((with_reducible apply Br.t); · assumption)
      | ((with_reducible apply Br.f); · assumption)
      | ((with_reducible apply Br.dt); · exact ab_known)
      | ((with_reducible apply Br.df); · exact ab_known)
      | (with_reducible first | refine Br.dec (fun hc => ?_) (fun hc => ?_) | refine Br.mk (fun hc => ?_) (fun hc => ?_))
      | (refine PreP.mk hs5 ?_)
      | (refine PreP.mk hs4 ?_)
      | ((with_reducible apply DrawG.len [false, false, false, false, false, false, false, false, true, false, false, true]); · decide +kernel)
      | ((with_reducible first | apply NeedRows.mk | apply NeedMap.mk | apply NeedIter.mk); · exact ab_look)
      | ((with_reducible apply NeedLen.mk); · first | assumption | rfl)
      | ((with_reducible apply NeedRow.mk); · exact ab_lookR)
      | ((with_reducible apply DrawG.mk (List.replicate 60 false)); · decide +kernel)
      | (with_reducible first | refine NewP.mk (fun id hid => ?_) | refine NilP.mk (fun e he => ?_))
      | (with_reducible first | exact trivial | exact And.intro rfl rfl)
      | ((with_reducible apply PreP.mk); · exact ab_asked)
      | refine Exists.intro _ (PreP.mk (bytesOf_lst _) ?_)
      | refine PreP.mk (lenD_lst _) ?_
      | (with_reducible first | refine PreP.mk ?_ ?_ | refine BothP.mk ?_ ?_)
      | ((with_reducible apply AncOr.anc); · decide +kernel)
      | with_reducible refine AncOr.go ?_)
    refine AppTo.new (fun id79 hid79 => ?_)
    have l66 : id66 = (H ++ z).length := hid66
    have l70 : id70 = (H ++ z).length + 1 := by rw [hid70, List.length_append]; rfl
    have l79 : id79 = (H ++ z).length + 2 := by rw [hid79, List.length_append, setN_length, List.length_append]; rfl
    repeat' (first
      | ((with_reducible apply Onw.mk); conv => whnf)
      | (with_reducible first | apply Br.tt | apply Br.ff | apply Br.no)
      | ((with_reducible apply Br.t); · assumption)
      | ((with_reducible apply Br.f); · assumption)
      | ((with_reducible apply Br.dt); · exact ab_known)
      | ((with_reducible apply Br.df); · exact ab_known)
      | (with_reducible first | refine Br.dec (fun hc => ?_) (fun hc => ?_) | refine Br.mk (fun hc => ?_) (fun hc => ?_))
      | ((with_reducible apply DrawG.len [false, false, false, false, false, false, false, false, false, false, true]); · decide +kernel)
      | ((with_reducible first | apply NeedRows.mk | apply NeedMap.mk | apply NeedIter.mk); · exact ab_look)
      | ((with_reducible apply NeedLen.mk); · first | assumption | rfl)
      | ((with_reducible apply NeedRow.mk); · exact ab_lookR)
      | ((with_reducible apply DrawG.mk (List.replicate 60 false)); · decide +kernel)
      | (with_reducible first | refine NewP.mk (fun id hid => ?_) | refine NilP.mk (fun e he => ?_))
      | (with_reducible first | exact trivial | exact And.intro rfl rfl)
      | ((with_reducible apply PreP.mk); · exact ab_asked)
      | refine Exists.intro _ (PreP.mk (bytesOf_lst _) ?_)
      | refine PreP.mk (lenD_lst _) ?_
      | (with_reducible first | refine PreP.mk ?_ ?_ | refine BothP.mk ?_ ?_)
      | ((with_reducible apply AncOr.anc); · decide +kernel)
      | with_reducible refine AncOr.go ?_)
    have hlen : (allB (l ++ [b])).length = L.length + 1 := by rw [← hst]; simp; omega
    have e79 : ((frontD L i b).drop 0).take ((headD L i).length + (oneD b).length) ++ tailD L i = ((allB (l ++ [b])).map batRow).map (·.map D.p) := by
      rw [List.drop_zero, List.take_of_length_le (by rw [fl, headD_len hil, ol]; omega), frontD_eq, tailD_eq, ← List.map_append, ← List.map_append, ← hst]
      simp
    refine CallOK.frzCell m 0 0 (ps := (allB (l ++ [b])).map batRow) (nth_setN_same (nth_setN_same (nth_app (nth_setN_ne (by omega) (nth_app (nth_setN_ne (by omega) (nth_app hr1))))))) rfl rfl (by omega)
      (nth_setN_ne (by omega) (nth_setN_ne (by omega) (nth_new (by rw [setN_length]; exact hid79)))) ?_ ?_ (fun r hr => by obtain ⟨y, _, rfl⟩ := List.mem_map.1 hr; rfl) ?_
    · rw [List.drop_zero, List.take_of_length_le ?_]
      · exact e79
      · have this : _ = L.length + 1 := (congrArg List.length e79).trans (by rw [List.length_map, List.length_map, hlen])
        refine Nat.le_of_eq (this.trans ?_)
        show _ = (headD L i).length + (oneD b).length + (tailD L i).length
        rw [headD_len hil, ol, tl]; omega
    · show (headD L i).length + (oneD b).length + (tailD L i).length = _
      rw [headD_len hil, ol, tl, List.length_map, hlen]; omega
    refine CallOK.go (c12 _ m (allB (l ++ [b])) (if low < lo then lo else low) (nth_setN_same (nth_setN_ne (by omega) (nth_setN_same (nth_setN_same (nth_app (nth_setN_ne (by omega) (nth_app (nth_setN_ne (by omega) (nth_app hr1))))))))) (by omega) ?_ ?_ hkp ?_) (fun r2 H2 hr2 => ?_)
    · split <;> omega
    · split <;> omega
    · intro e; exfalso; split at e <;> omega
    obtain ⟨⟨k, rfl, hk⟩, he2⟩ := hr2
    rw [he2]; clear he2 H2
    repeat' (first
      | ((with_reducible apply Onw.mk); conv => whnf)
      | (with_reducible first | apply Br.tt | apply Br.ff | apply Br.no)
      | ((with_reducible apply Br.t); · assumption)
      | ((with_reducible apply Br.f); · assumption)
      | ((with_reducible apply Br.dt); · exact ab_known)
      | ((with_reducible apply Br.df); · exact ab_known)
      | (with_reducible first | refine Br.dec (fun hc => ?_) (fun hc => ?_) | refine Br.mk (fun hc => ?_) (fun hc => ?_))
      | ((with_reducible first | apply NeedRows.mk | apply NeedMap.mk | apply NeedIter.mk); · exact ab_look)
      | ((with_reducible apply NeedLen.mk); · first | assumption | rfl)
      | ((with_reducible apply NeedRow.mk); · exact ab_lookR)
      | ((with_reducible apply DrawG.mk (List.replicate 60 false)); · decide +kernel)
      | (with_reducible first | refine NewP.mk (fun id hid => ?_) | refine NilP.mk (fun e he => ?_))
      | (with_reducible first | exact trivial | exact And.intro rfl rfl)
      | ((with_reducible apply PreP.mk); · exact ab_asked)
      | refine Exists.intro _ (PreP.mk (bytesOf_lst _) ?_)
      | refine PreP.mk (lenD_lst _) ?_
      | (with_reducible first | refine PreP.mk ?_ ?_ | refine BothP.mk ?_ ?_)
      | ((with_reducible apply AncOr.anc); · decide +kernel)
      | with_reducible refine AncOr.go ?_)
    refine ⟨k, rfl, hk, nth_setN_same (nth_setN_ne (by omega) (nth_setN_same (nth_setN_same (nth_app (nth_setN_ne (by omega) (nth_app (nth_setN_ne (by omega) (nth_app hr1)))))))), ⟨fun j o hj ho => ?_, fun _ hj => .inl hj, by simp only [setN_length, List.length_append, List.length_cons, List.length_nil]; omega⟩⟩
    have hlj := nth_lt ho
    simp only [List.mem_cons, List.not_mem_nil, or_false] at hj
    have hz : (H ++ z).length = H.length + z.length := List.length_append
    exact nth_setN_ne (by omega) (nth_setN_ne (by omega) (nth_setN_ne (by omega) (nth_setN_ne (by omega) (nth_app (nth_setN_ne (by omega) (nth_app (nth_setN_ne (by omega) (nth_app (nth_app ho)))))))))
end Go.Proofs.Ytjlhkbikconboaa
