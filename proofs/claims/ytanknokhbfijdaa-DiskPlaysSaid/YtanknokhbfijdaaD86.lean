/- What functions of the disk, and of the laws over it, do. Conditions: those that each theorem names. -/
import Derived.Test.YtanknokhbfijdaaD85
set_option linter.unusedVariables false
set_option linter.unusedSimpArgs false
namespace Go.Proofs.Ytanknokhbfijdaa
open Go.Ab
set_option maxRecDepth 100000
set_option maxHeartbeats 1000000
attribute [local irreducible] Run CallOK DetCall Br PreP BothP AncOr Onw NeedRows NeedMap NeedRow NeedLen NilP NeedIter RoundP EntryP EqP OptP NewP NewSlice NewMade AppTo DrawG anc drawB
/-- Both disks in the heap. -/
structure Two (q : Int) (i : Nat) (H : Heap) (d r : Nat) : Prop where
  ex : ∃ m rr idsd idsr, DiskIs H d m idsd ∧ RIs H r rr idsr ∧ (∀ j ∈ idsd, j ∉ idsr) ∧ Pl q i m rr
theorem tmp_goes (H : Heap) (o o' : Ab.Obj) {i : Nat} (hi : i = H.length) : Goes H [] (setN (H ++ [o]) i o') [] :=
  ⟨fun j o hj ho => nth_setN_ne (by have := nth_lt ho; omega) (nth_app ho), fun j hj => (by cases hj), by simp [setN_length]⟩
theorem two_next {H H1 H2 : Heap} {d r id : Nat} {m' : Ds} {rr rr' : Rf} {idsd idsr ids1 ids2 : List Nat} {o : Ab.Obj} (hD1 : DiskIs H1 d m' ids1) (hg1 : Goes H idsd H1 ids1) (hR2 : RIs H2 r rr' ids2) (hg2 : Goes H1 idsr H2 ids2) (hR : RIs H r rr idsr)
    (hdis : ∀ j ∈ idsd, j ∉ idsr) (h1 : id ∉ idsd) (h2 : id ∉ idsr) (ho : nth H id = some o) : DiskIs H2 d m' ids1 ∧ (∀ j ∈ ids1, j ∉ ids2) ∧ nth H2 id = some o := by
  have hap : ∀ j ∈ idsr, j ∉ ids1 := hg1.apart (fun j hj e => hdis j e hj) hR.lt
  have hap2 : ∀ j ∈ ids1, j ∉ idsr := fun j hj e => hap j e hj
  exact ⟨hD1.move hg2 hap2, hg2.apart hap2 hD1.lt, hg2.out id _ h2 (hg1.out id _ h1 ho)⟩
theorem addP_used (name b : List UInt8) (files : List PF) : ((addP files name b).map (·.bytes.length)).sum ≤ (files.map (·.bytes.length)).sum + (files.length + 1) * b.length ∧ (addP files name b).length ≤ files.length + 1 := by
  have h : ∀ l : List PF, ((l.map fun p => if p.name = name then { p with bytes := p.bytes ++ b } else p).map (·.bytes.length)).sum ≤ (l.map (·.bytes.length)).sum + l.length * b.length := by
    intro l
    induction l with
    | nil => simp
    | cons p l ih =>
      simp only [List.map_cons, List.sum_cons, List.length_cons, Nat.add_mul, Nat.one_mul]
      split
      · simp only [List.length_append]; omega
      · omega
  unfold addP
  split
  · have := h files
    rw [Nat.add_mul, Nat.one_mul]
    exact ⟨by omega, by simp⟩
  · rw [Nat.add_mul, Nat.one_mul]
    simp
theorem appendM_ok {m : Ds} (h : DsOK m) (name b : List UInt8) (hs : m.steps < 999999999999) (hu : usedM m + (m.files.length + 1) * b.length ≤ 10000000) (hf : m.files.length + 1 ≤ 1000) : DsOK (appendM m name b) := by
  unfold appendM
  have h1 := addP_used name b m.files
  cases appendR m name b == 0 with
  | false => exact stepM_ok h hs
  | true =>
    have h0 := h.s0
    exact ⟨by simp [stepM]; omega, by simp [stepM]; omega, Nat.le_trans h1.1 hu, Nat.le_trans h1.2 hf⟩
theorem s7 (H : Heap) (q : Int) (hq : -9223372036854775808 ≤ q ∧ q ≤ 9223372036854775807) (l : List Stp) (hl : ∀ x ∈ l, StpOK x) :
    Ab.Spec Try.prog 7 [i64 q, .p (.lst (l.map stpRow))] H (fun res _ => res = boolD true) := by
  have hll : ((l.map stpRow).length : Int) = l.length := by simp
  refine Ab.Spec.walk hm Try.func7 (by kernel_rfl) 400 ?_
  repeat' (first
    | ((with_reducible apply Onw.mk); conv => whnf)
    | (with_reducible first | apply Br.tt | apply Br.ff | apply Br.no)
    | ((with_reducible apply Br.t); · assumption)
    | ((with_reducible apply Br.f); · assumption)
    | ((with_reducible apply Br.dt); · exact ab_known)
    | ((with_reducible apply Br.df); · exact ab_known)
    | (with_reducible first | refine Br.dec (fun hc => ?_) (fun hc => ?_) | refine Br.mk (fun hc => ?_) (fun hc => ?_))
    | ((with_reducible first | apply NeedRows.mk | apply NeedMap.mk | apply NeedIter.mk); · exact ab_look)
    | ((with_reducible apply NeedLen.mk); · first | assumption | rfl)
    | ((with_reducible apply NeedRow.mk); · exact ab_lookR)
    | ((with_reducible apply DrawG.mk (List.replicate 60 false)); · decide +kernel)
    | (with_reducible first | refine NewP.mk (fun id hid => ?_) | refine NilP.mk (fun e he => ?_))
    | (with_reducible first | exact trivial | exact And.intro rfl rfl)
    | ((with_reducible apply PreP.mk); · exact ab_asked)
    | refine Exists.intro _ (PreP.mk (bytesOf_lst _) ?_)
    | refine PreP.mk (lenD_lst _) ?_
    | (with_reducible first | refine PreP.mk ?_ ?_ | refine BothP.mk ?_ ?_)
    | ((with_reducible apply AncOr.anc); · decide +kernel)
    | with_reducible refine AncOr.go ?_)
  refine CallOK.go (CallOK.of_spec (s14 _)) (fun r0 H0 hr => ?_)
  obtain ⟨rfl, l0, rfl⟩ := hr
  rcases Nat.lt_or_ge 80 l.length with h80 | h80
  · have hc : (80 : Int) < ((l.map stpRow).length : Int) := by rw [hll]; omega
    repeat' (first
      | ((with_reducible apply Onw.mk); conv => whnf)
      | (with_reducible first | apply Br.tt | apply Br.ff | apply Br.no)
      | ((with_reducible apply Br.t); · assumption)
      | ((with_reducible apply Br.f); · assumption)
      | ((with_reducible apply Br.dt); · exact ab_known)
      | ((with_reducible apply Br.df); · exact ab_known)
      | (with_reducible first | refine Br.dec (fun hc => ?_) (fun hc => ?_) | refine Br.mk (fun hc => ?_) (fun hc => ?_))
      | ((with_reducible first | apply NeedRows.mk | apply NeedMap.mk | apply NeedIter.mk); · exact ab_look)
      | ((with_reducible apply NeedLen.mk); · first | assumption | rfl)
      | ((with_reducible apply NeedRow.mk); · exact ab_lookR)
      | ((with_reducible apply DrawG.mk (List.replicate 60 false)); · decide +kernel)
      | (with_reducible first | refine NewP.mk (fun id hid => ?_) | refine NilP.mk (fun e he => ?_))
      | (with_reducible first | exact trivial | exact And.intro rfl rfl)
      | ((with_reducible apply PreP.mk); · exact ab_asked)
      | refine Exists.intro _ (PreP.mk (bytesOf_lst _) ?_)
      | refine PreP.mk (lenD_lst _) ?_
      | (with_reducible first | refine PreP.mk ?_ ?_ | refine BothP.mk ?_ ?_)
      | ((with_reducible apply AncOr.anc); · decide +kernel)
      | with_reducible refine AncOr.go ?_)
    all_goals rfl
  have hc : ¬ (80 : Int) < ((l.map stpRow).length : Int) := by rw [hll]; omega
  repeat' (first
    | ((with_reducible apply Onw.mk); conv => whnf)
    | (with_reducible first | apply Br.tt | apply Br.ff | apply Br.no)
    | ((with_reducible apply Br.t); · assumption)
    | ((with_reducible apply Br.f); · assumption)
    | ((with_reducible apply Br.dt); · exact ab_known)
    | ((with_reducible apply Br.df); · exact ab_known)
    | (with_reducible first | refine Br.dec (fun hc => ?_) (fun hc => ?_) | refine Br.mk (fun hc => ?_) (fun hc => ?_))
    | ((with_reducible first | apply NeedRows.mk | apply NeedMap.mk | apply NeedIter.mk); · exact ab_look)
    | ((with_reducible apply NeedLen.mk); · first | assumption | rfl)
    | ((with_reducible apply NeedRow.mk); · exact ab_lookR)
    | ((with_reducible apply DrawG.mk (List.replicate 60 false)); · decide +kernel)
    | (with_reducible first | refine NewP.mk (fun id hid => ?_) | refine NilP.mk (fun e he => ?_))
    | (with_reducible first | exact trivial | exact And.intro rfl rfl)
    | ((with_reducible apply PreP.mk); · exact ab_asked)
    | refine Exists.intro _ (PreP.mk (bytesOf_lst _) ?_)
    | refine PreP.mk (lenD_lst _) ?_
    | (with_reducible first | refine PreP.mk ?_ ?_ | refine BothP.mk ?_ ?_)
    | ((with_reducible apply AncOr.anc); · decide +kernel)
    | with_reducible refine AncOr.go ?_)
  refine CallOK.go (a15 _ q) (fun r1 H1 hr => ?_)
  obtain ⟨d, ids0, rfl, hd0, hg0⟩ := hr
  repeat' (first
    | ((with_reducible apply Onw.mk); conv => whnf)
    | (with_reducible first | apply Br.tt | apply Br.ff | apply Br.no)
    | ((with_reducible apply Br.t); · assumption)
    | ((with_reducible apply Br.f); · assumption)
    | ((with_reducible apply Br.dt); · exact ab_known)
    | ((with_reducible apply Br.df); · exact ab_known)
    | (with_reducible first | refine Br.dec (fun hc => ?_) (fun hc => ?_) | refine Br.mk (fun hc => ?_) (fun hc => ?_))
    | ((with_reducible first | apply NeedRows.mk | apply NeedMap.mk | apply NeedIter.mk); · exact ab_look)
    | ((with_reducible apply NeedLen.mk); · first | assumption | rfl)
    | ((with_reducible apply NeedRow.mk); · exact ab_lookR)
    | ((with_reducible apply DrawG.mk (List.replicate 60 false)); · decide +kernel)
    | (with_reducible first | refine NewP.mk (fun id hid => ?_) | refine NilP.mk (fun e he => ?_))
    | (with_reducible first | exact trivial | exact And.intro rfl rfl)
    | ((with_reducible apply PreP.mk); · exact ab_asked)
    | refine Exists.intro _ (PreP.mk (bytesOf_lst _) ?_)
    | refine PreP.mk (lenD_lst _) ?_
    | (with_reducible first | refine PreP.mk ?_ ?_ | refine BothP.mk ?_ ?_)
    | ((with_reducible apply AncOr.anc); · decide +kernel)
    | with_reducible refine AncOr.go ?_)
  refine CallOK.go (CallOK.of_spec (s26 _ q)) (fun r2 H2 hr => ?_)
  obtain ⟨rfl, he2⟩ := hr
  repeat' (first
    | ((with_reducible apply Onw.mk); conv => whnf)
    | (with_reducible first | apply Br.tt | apply Br.ff | apply Br.no)
    | ((with_reducible apply Br.t); · assumption)
    | ((with_reducible apply Br.f); · assumption)
    | ((with_reducible apply Br.dt); · exact ab_known)
    | ((with_reducible apply Br.df); · exact ab_known)
    | (with_reducible first | refine Br.dec (fun hc => ?_) (fun hc => ?_) | refine Br.mk (fun hc => ?_) (fun hc => ?_))
    | ((with_reducible first | apply NeedRows.mk | apply NeedMap.mk | apply NeedIter.mk); · exact ab_look)
    | ((with_reducible apply NeedLen.mk); · first | assumption | rfl)
    | ((with_reducible apply NeedRow.mk); · exact ab_lookR)
    | ((with_reducible apply DrawG.mk (List.replicate 60 false)); · decide +kernel)
    | (with_reducible first | refine NewP.mk (fun id hid => ?_) | refine NilP.mk (fun e he => ?_))
    | (with_reducible first | exact trivial | exact And.intro rfl rfl)
    | ((with_reducible apply PreP.mk); · exact ab_asked)
    | refine Exists.intro _ (PreP.mk (bytesOf_lst _) ?_)
    | refine PreP.mk (lenD_lst _) ?_
    | (with_reducible first | refine PreP.mk ?_ ?_ | refine BothP.mk ?_ ?_)
    | ((with_reducible apply AncOr.anc); · decide +kernel)
    | with_reducible refine AncOr.go ?_)
  have hr2 : nth H2 H1.length = some (.rows [[.p .nil, i64 q, i64 0, i64 0, boolD false]]) := by rw [he2]; exact nth_new rfl
  have hd2 : DiskIs H2 d ⟨0, 0, q, []⟩ ids0 := hd0.move (a := []) (b := []) (by rw [he2]; exact Goes.app _ _ _) (fun j _ hj => by cases hj)
  have hd2l := hd0.lt
  have hH12 : H1.length < H2.length := nth_lt hr2
  clear he2
  refine Run.virtCell 3 H1.length 0 0 hr2 rfl rfl ?_
  have hRI : RIs (setN H2 H1.length (.rows (setN [[.p .nil, i64 q, i64 0, i64 0, boolD false]] 0 (setN [.p .nil, i64 q, i64 0, i64 0, boolD false] 0 (.own H2.length 3 0 0 none)))) ++ [.rows []]) H1.length ⟨[], q, 0, 0, false⟩ [H1.length, H2.length] := by
    refine ⟨H2.length, [], ⟨nth_app (nth_setN_same hr2), nth_new (by simp [setN_length]), fun f hf => (by cases hf), ?_⟩, rfl, rfl⟩
    simp; omega
  have hDI : DiskIs (setN H2 H1.length (.rows (setN [[.p .nil, i64 q, i64 0, i64 0, boolD false]] 0 (setN [.p .nil, i64 q, i64 0, i64 0, boolD false] 0 (.own H2.length 3 0 0 none)))) ++ [.rows []]) d ⟨0, 0, q, []⟩ ids0 :=
    hd2.move (a := [H1.length]) (b := []) ⟨fun j o hj ho => nth_app (nth_setN_ne (by simp at hj; omega) ho), fun j hj => (by cases hj), by simp [setN_length]⟩ (fun j hj e => by have := hd2l j hj; simp at e; omega)
  generalize (setN H2 H1.length (.rows (setN [[.p .nil, i64 q, i64 0, i64 0, boolD false]] 0 (setN [.p .nil, i64 q, i64 0, i64 0, boolD false] 0 (.own H2.length 3 0 0 none)))) ++ [.rows []] : Heap) = H3 at hRI hDI ⊢
  have hT : Two q 0 H3 d H1.length := ⟨⟨_, _, _, _, hDI, hRI, fun j hj e => by have := hd2l j hj; simp at e; omega, ⟨⟨rfl, rfl, rfl, fun _ => .inl ⟨Int.le_refl _, rfl⟩, Int.le_refl _, (by show (0 : Int) ≤ 9223372036854775807; omega), fun x => Iff.rfl, List.Pairwise.nil, List.nodup_nil, fun x hx => (by cases hx)⟩, .inl rfl, rfl, hq.1, hq.2, Int.le_refl _, Int.le_refl _, Nat.le_refl _, Nat.le_refl _, by omega⟩⟩⟩
  generalize H1.length = r at hT ⊢
  clear hRI hDI hd2 hr2 hH12 hd0 hg0 hd2l
  refine Run.keep [(0, i64 q), (1, .p (.lst (l.map stpRow))), (5, .ptr d 0 0), (6, .ptr r 0 0), (7, i64 (0 : Nat))] ⟨rfl, rfl, rfl, rfl, rfl, trivial⟩ ?_
  refine Run.rounds (fun i T H' => i ≤ l.length ∧ T = [(0, i64 q), (1, .p (.lst (l.map stpRow))), (5, .ptr d 0 0), (6, .ptr r 0 0), (7, i64 (i : Nat))] ∧ Two q i H' d r) (fun i => l.length - i) ?_ (x := 0) ⟨Nat.zero_le _, rfl, hT⟩
  clear hT
  rintro i T H ⟨hi, rfl, ⟨m, rr, idsd, idsr, hD, hR, hdis, hP⟩⟩ ih
  rcases Nat.lt_or_ge i l.length with hil | hil
  · have hc1 : (i : Int) < ((l.map stpRow).length : Int) := by rw [hll]; omega
    obtain ⟨s, hs⟩ : ∃ s, l[i]? = some s := ⟨_, List.getElem?_eq_getElem hil⟩
    have hsok := hl s (List.mem_of_getElem? hs)
    have hri : Ab.rowAt (l.map stpRow) (i : Int).toNat = stpRow s := rowAt_map hs
    have hrp : (0 : Int) ≤ (i : Int) ∧ (i : Int) < ((l.map stpRow).length : Int) ∧ (Ab.rowAt (l.map stpRow) (i : Int).toNat).length = 6 := ⟨by omega, hc1, by rw [hri]; rfl⟩
    refine Run.walk hm Try.func7 22 ?_
    repeat' (first
      | ((with_reducible apply Onw.mk); conv => whnf)
      | (with_reducible first | apply Br.tt | apply Br.ff | apply Br.no)
      | ((with_reducible apply Br.t); · assumption)
      | ((with_reducible apply Br.f); · assumption)
      | ((with_reducible apply Br.dt); · exact ab_known)
      | ((with_reducible apply Br.df); · exact ab_known)
      | (with_reducible first | refine Br.dec (fun hc => ?_) (fun hc => ?_) | refine Br.mk (fun hc => ?_) (fun hc => ?_))
      | (refine PreP.mk hrp ?_)
      | (refine EqP.mk hri ?_)
      | ((with_reducible first | apply NeedRows.mk | apply NeedMap.mk | apply NeedIter.mk); · exact ab_look)
      | ((with_reducible apply NeedLen.mk); · first | assumption | rfl)
      | ((with_reducible apply NeedRow.mk); · exact ab_lookR)
      | ((with_reducible apply DrawG.mk (List.replicate 60 false)); · decide +kernel)
      | (with_reducible first | refine NewP.mk (fun id hid => ?_) | refine NilP.mk (fun e he => ?_))
      | (with_reducible first | exact trivial | exact And.intro rfl rfl)
      | ((with_reducible apply PreP.mk); · exact ab_asked)
      | refine Exists.intro _ (PreP.mk (bytesOf_lst _) ?_)
      | refine PreP.mk (lenD_lst _) ?_
      | (with_reducible first | refine PreP.mk ?_ ?_ | refine BothP.mk ?_ ?_)
      | ((with_reducible apply AncOr.anc); · decide +kernel)
      | with_reducible refine AncOr.go ?_)
    refine Run.keep [(0, i64 q), (1, .p (.lst (l.map stpRow))), (5, .ptr d 0 0), (6, .ptr r 0 0), (7, i64 (i : Nat)), (8, .ptr id 0 0)] ⟨rfl, rfl, rfl, rfl, rfl, rfl, trivial⟩ ?_
    have hgt := tmp_goes H (.rows [[i64 0, .p (.str []), .p (.str []), .p .nil, i64 0, .p .nil]]) (.rows [[i64 s.what, .p (.str s.a), .p (.str s.b), .p (.lst (s.bytes.map byteRow)), i64 s.pat, .p (.lst (s.ch.map byteRow))]]) hid
    have hD4 := hD.move hgt (fun j _ hj => by cases hj)
    have hR4 := hR.move hgt (fun j _ hj => by cases hj)
    have hrow8 : nth (setN (H ++ [.rows [[i64 0, .p (.str []), .p (.str []), .p .nil, i64 0, .p .nil]]]) id (.rows [[i64 s.what, .p (.str s.a), .p (.str s.b), .p (.lst (s.bytes.map byteRow)), i64 s.pat, .p (.lst (s.ch.map byteRow))]])) id = some (.rows [[i64 s.what, .p (.str s.a), .p (.str s.b), .p (.lst (s.bytes.map byteRow)), i64 s.pat, .p (.lst (s.ch.map byteRow))]]) := nth_setN_same (nth_new hid)
    have hid4 : id ∉ idsd := fun e => by have := hD.lt id e; omega
    have hid4r : id ∉ idsr := fun e => by have := hR.lt id e; omega
    change Run Try.prog 7 Try.f7.ntmps _ _ _ (setN (H ++ [.rows [[i64 0, .p (.str []), .p (.str []), .p .nil, i64 0, .p .nil]]]) id (.rows [[i64 s.what, .p (.str s.a), .p (.str s.b), .p (.lst (s.bytes.map byteRow)), i64 s.pat, .p (.lst (s.ch.map byteRow))]])) _
    generalize setN (H ++ [.rows [[i64 0, .p (.str []), .p (.str []), .p .nil, i64 0, .p .nil]]]) id (.rows [[i64 s.what, .p (.str s.a), .p (.str s.b), .p (.lst (s.bytes.map byteRow)), i64 s.pat, .p (.lst (s.ch.map byteRow))]]) = H4 at hD4 hR4 hrow8 ⊢
    clear hgt hD hR hid
    refine Run.walk hm Try.func7 300 ?_
    have hbl : ((s.bytes.map byteRow).length : Int) = s.bytes.length := by simp
    have hcl : ((s.ch.map byteRow).length : Int) = s.ch.length := by simp
    by_cases h300 : (300 : Int) < ((s.bytes.map byteRow).length : Int)
    · repeat' (first
      | ((with_reducible apply Onw.mk); conv => whnf)
      | (with_reducible first | apply Br.tt | apply Br.ff | apply Br.no)
      | ((with_reducible apply Br.t); · assumption)
      | ((with_reducible apply Br.f); · assumption)
      | ((with_reducible apply Br.dt); · exact ab_known)
      | ((with_reducible apply Br.df); · exact ab_known)
      | (with_reducible first | refine Br.dec (fun hc => ?_) (fun hc => ?_) | refine Br.mk (fun hc => ?_) (fun hc => ?_))
      | ((with_reducible first | apply NeedRows.mk | apply NeedMap.mk | apply NeedIter.mk); · exact ab_look)
      | ((with_reducible apply NeedLen.mk); · first | assumption | rfl)
      | ((with_reducible apply NeedRow.mk); · exact ab_lookR)
      | ((with_reducible apply DrawG.mk (List.replicate 60 false)); · decide +kernel)
      | (with_reducible first | refine NewP.mk (fun id hid => ?_) | refine NilP.mk (fun e he => ?_))
      | (with_reducible first | exact trivial | exact And.intro rfl rfl)
      | ((with_reducible apply PreP.mk); · exact ab_asked)
      | refine Exists.intro _ (PreP.mk (bytesOf_lst _) ?_)
      | refine PreP.mk (lenD_lst _) ?_
      | (with_reducible first | refine PreP.mk ?_ ?_ | refine BothP.mk ?_ ?_)
      | ((with_reducible apply AncOr.anc); · decide +kernel)
      | with_reducible refine AncOr.go ?_)
      all_goals rfl
    by_cases h60 : (60 : Int) < ((s.ch.map byteRow).length : Int)
    · repeat' (first
      | ((with_reducible apply Onw.mk); conv => whnf)
      | (with_reducible first | apply Br.tt | apply Br.ff | apply Br.no)
      | ((with_reducible apply Br.t); · assumption)
      | ((with_reducible apply Br.f); · assumption)
      | ((with_reducible apply Br.dt); · exact ab_known)
      | ((with_reducible apply Br.df); · exact ab_known)
      | (with_reducible first | refine Br.dec (fun hc => ?_) (fun hc => ?_) | refine Br.mk (fun hc => ?_) (fun hc => ?_))
      | ((with_reducible first | apply NeedRows.mk | apply NeedMap.mk | apply NeedIter.mk); · exact ab_look)
      | ((with_reducible apply NeedLen.mk); · first | assumption | rfl)
      | ((with_reducible apply NeedRow.mk); · exact ab_lookR)
      | ((with_reducible apply DrawG.mk (List.replicate 60 false)); · decide +kernel)
      | (with_reducible first | refine NewP.mk (fun id hid => ?_) | refine NilP.mk (fun e he => ?_))
      | (with_reducible first | exact trivial | exact And.intro rfl rfl)
      | ((with_reducible apply PreP.mk); · exact ab_asked)
      | refine Exists.intro _ (PreP.mk (bytesOf_lst _) ?_)
      | refine PreP.mk (lenD_lst _) ?_
      | (with_reducible first | refine PreP.mk ?_ ?_ | refine BothP.mk ?_ ?_)
      | ((with_reducible apply AncOr.anc); · decide +kernel)
      | with_reducible refine AncOr.go ?_)
      all_goals rfl
    by_cases h40a : (40 : Int) < (s.a.length : Int)
    · repeat' (first
      | ((with_reducible apply Onw.mk); conv => whnf)
      | (with_reducible first | apply Br.tt | apply Br.ff | apply Br.no)
      | ((with_reducible apply Br.t); · assumption)
      | ((with_reducible apply Br.f); · assumption)
      | ((with_reducible apply Br.dt); · exact ab_known)
      | ((with_reducible apply Br.df); · exact ab_known)
      | (with_reducible first | refine Br.dec (fun hc => ?_) (fun hc => ?_) | refine Br.mk (fun hc => ?_) (fun hc => ?_))
      | ((with_reducible first | apply NeedRows.mk | apply NeedMap.mk | apply NeedIter.mk); · exact ab_look)
      | ((with_reducible apply NeedLen.mk); · first | assumption | rfl)
      | ((with_reducible apply NeedRow.mk); · exact ab_lookR)
      | ((with_reducible apply DrawG.mk (List.replicate 60 false)); · decide +kernel)
      | (with_reducible first | refine NewP.mk (fun id hid => ?_) | refine NilP.mk (fun e he => ?_))
      | (with_reducible first | exact trivial | exact And.intro rfl rfl)
      | ((with_reducible apply PreP.mk); · exact ab_asked)
      | refine Exists.intro _ (PreP.mk (bytesOf_lst _) ?_)
      | refine PreP.mk (lenD_lst _) ?_
      | (with_reducible first | refine PreP.mk ?_ ?_ | refine BothP.mk ?_ ?_)
      | ((with_reducible apply AncOr.anc); · decide +kernel)
      | with_reducible refine AncOr.go ?_)
      all_goals rfl
    by_cases h40b : (40 : Int) < (s.b.length : Int)
    · repeat' (first
      | ((with_reducible apply Onw.mk); conv => whnf)
      | (with_reducible first | apply Br.tt | apply Br.ff | apply Br.no)
      | ((with_reducible apply Br.t); · assumption)
      | ((with_reducible apply Br.f); · assumption)
      | ((with_reducible apply Br.dt); · exact ab_known)
      | ((with_reducible apply Br.df); · exact ab_known)
      | (with_reducible first | refine Br.dec (fun hc => ?_) (fun hc => ?_) | refine Br.mk (fun hc => ?_) (fun hc => ?_))
      | ((with_reducible first | apply NeedRows.mk | apply NeedMap.mk | apply NeedIter.mk); · exact ab_look)
      | ((with_reducible apply NeedLen.mk); · first | assumption | rfl)
      | ((with_reducible apply NeedRow.mk); · exact ab_lookR)
      | ((with_reducible apply DrawG.mk (List.replicate 60 false)); · decide +kernel)
      | (with_reducible first | refine NewP.mk (fun id hid => ?_) | refine NilP.mk (fun e he => ?_))
      | (with_reducible first | exact trivial | exact And.intro rfl rfl)
      | ((with_reducible apply PreP.mk); · exact ab_asked)
      | refine Exists.intro _ (PreP.mk (bytesOf_lst _) ?_)
      | refine PreP.mk (lenD_lst _) ?_
      | (with_reducible first | refine PreP.mk ?_ ?_ | refine BothP.mk ?_ ?_)
      | ((with_reducible apply AncOr.anc); · decide +kernel)
      | with_reducible refine AncOr.go ?_)
      all_goals rfl
    have hn1 := hP.s1
    have hn2 := hP.u
    have hn3 := hP.sim.used
    have hn4 := hP.n
    have hn5 := hP.s0
    by_cases hw0 : s.what ≤ 2
    · obtain ⟨H5, hA, ids5, hD5, hg5⟩ := pdet16 hD4 hP.ds s.a s.bytes (by omega) (by omega)
      have hR5 : RIs H5 r rr idsr := hR4.move hg5 (fun j hj e => hdis j e hj)
      have hrow5 := hg5.out id _ hid4 hrow8
      have hB := b27 hR5 hP.rf s.a s.bytes (by omega) (by omega) (by rw [hP.sim.q, hP.qq]; exact hq)
      have hP6 := hP.append (name := s.a) (b := s.bytes) (by omega) (by omega) hD5.names
      rw [hP.sim.appendE hP.uq hP.s0 (by omega) s.a s.bytes (by omega) (by rw [hP.qq]; exact hq) (by omega)] at hB
      generalize appendR m s.a s.bytes = e at hA hB
      repeat' (first
        | ((with_reducible apply Onw.mk); conv => whnf)
        | (with_reducible first | apply Br.tt | apply Br.ff | apply Br.no)
        | ((with_reducible apply Br.t); · assumption)
        | ((with_reducible apply Br.f); · assumption)
        | ((with_reducible apply Br.dt); · exact ab_known)
        | ((with_reducible apply Br.df); · exact ab_known)
        | (with_reducible first | refine Br.dec (fun hc => ?_) (fun hc => ?_) | refine Br.mk (fun hc => ?_) (fun hc => ?_))
        | (refine DetCall.go hA ?_)
        | ((with_reducible apply DrawG.mkL 15 12 1 [false, false, false, false, false, false, true, false, false, false, false, false]); · decide +kernel)
        | ((with_reducible first | apply NeedRows.mk | apply NeedMap.mk | apply NeedIter.mk); · exact ab_look)
        | ((with_reducible apply NeedLen.mk); · first | assumption | rfl)
        | ((with_reducible apply NeedRow.mk); · exact ab_lookR)
        | ((with_reducible apply DrawG.mk (List.replicate 60 false)); · decide +kernel)
        | (with_reducible first | refine NewP.mk (fun id hid => ?_) | refine NilP.mk (fun e he => ?_))
        | (with_reducible first | exact trivial | exact And.intro rfl rfl)
        | ((with_reducible apply PreP.mk); · exact ab_asked)
        | refine Exists.intro _ (PreP.mk (bytesOf_lst _) ?_)
        | refine PreP.mk (lenD_lst _) ?_
        | (with_reducible first | refine PreP.mk ?_ ?_ | refine BothP.mk ?_ ?_)
        | ((with_reducible apply AncOr.anc); · decide +kernel)
        | with_reducible refine AncOr.go ?_)
      · refine ⟨?_, ?_, ?_⟩
        · show ((s.bytes.map byteRow).map (·.map D.p)).length * 1 ≤ maxRoom
          unfold maxRoom; simp; omega
        · show ((s.bytes.map byteRow).map (·.map D.p)).length ≤ maxS
          unfold maxS; simp; omega
        · intro x hx
          rw [byteRow_map] at hx
          exact byteRows_len s.bytes x hx
      refine NewSlice.lst (s.bytes.map byteRow) rfl (by simp) (fun x hx => by obtain ⟨y, _, rfl⟩ := List.mem_map.1 hx; rfl) ?_
      repeat' (first
        | ((with_reducible apply Onw.mk); conv => whnf)
        | (with_reducible first | apply Br.tt | apply Br.ff | apply Br.no)
        | ((with_reducible apply Br.t); · assumption)
        | ((with_reducible apply Br.f); · assumption)
        | ((with_reducible apply Br.dt); · exact ab_known)
        | ((with_reducible apply Br.df); · exact ab_known)
        | (with_reducible first | refine Br.dec (fun hc => ?_) (fun hc => ?_) | refine Br.mk (fun hc => ?_) (fun hc => ?_))
        | (refine DetCall.go hA ?_)
        | ((with_reducible first | apply NeedRows.mk | apply NeedMap.mk | apply NeedIter.mk); · exact ab_look)
        | ((with_reducible apply NeedLen.mk); · first | assumption | rfl)
        | ((with_reducible apply NeedRow.mk); · exact ab_lookR)
        | ((with_reducible apply DrawG.mk (List.replicate 60 false)); · decide +kernel)
        | (with_reducible first | refine NewP.mk (fun id hid => ?_) | refine NilP.mk (fun e he => ?_))
        | (with_reducible first | exact trivial | exact And.intro rfl rfl)
        | ((with_reducible apply PreP.mk); · exact ab_asked)
        | refine Exists.intro _ (PreP.mk (bytesOf_lst _) ?_)
        | refine PreP.mk (lenD_lst _) ?_
        | (with_reducible first | refine PreP.mk ?_ ?_ | refine BothP.mk ?_ ?_)
        | ((with_reducible apply AncOr.anc); · decide +kernel)
        | with_reducible refine AncOr.go ?_)
      refine CallOK.go hB (fun r6 H6 hr => ?_)
      obtain ⟨rfl, ids6, hR6, hg6⟩ := hr
      obtain ⟨hD6, hdis6, hrow6⟩ := two_next hD5 hg5 hR6 hg6 hR4 hdis hid4 hid4r hrow8
      repeat' (first
        | ((with_reducible apply Onw.mk); conv => whnf)
        | (with_reducible first | apply Br.tt | apply Br.ff | apply Br.no)
        | ((with_reducible apply Br.t); · assumption)
        | ((with_reducible apply Br.f); · assumption)
        | ((with_reducible apply Br.dt); · exact ab_known)
        | ((with_reducible apply Br.df); · exact ab_known)
        | (with_reducible first | refine Br.dec (fun hc => ?_) (fun hc => ?_) | refine Br.mk (fun hc => ?_) (fun hc => ?_))
        | ((with_reducible first | apply NeedRows.mk | apply NeedMap.mk | apply NeedIter.mk); · exact ab_look)
        | ((with_reducible apply NeedLen.mk); · first | assumption | rfl)
        | ((with_reducible apply NeedRow.mk); · exact ab_lookR)
        | ((with_reducible apply DrawG.mk (List.replicate 60 false)); · decide +kernel)
        | (with_reducible first | refine NewP.mk (fun id hid => ?_) | refine NilP.mk (fun e he => ?_))
        | (with_reducible first | exact trivial | exact And.intro rfl rfl)
        | ((with_reducible apply PreP.mk); · exact ab_asked)
        | refine Exists.intro _ (PreP.mk (bytesOf_lst _) ?_)
        | refine PreP.mk (lenD_lst _) ?_
        | (with_reducible first | refine PreP.mk ?_ ?_ | refine BothP.mk ?_ ?_)
        | ((with_reducible apply AncOr.anc); · decide +kernel)
        | with_reducible refine AncOr.go ?_)
      refine CallOK.go (CallOK.of_spec (s33 H6 d r _ _ ids5 ids6 s.a hD6 hR6 hP6.sim hP6.ds hP6.rf)) (fun r7 H7 hr => ?_)
      obtain ⟨rfl, rfl⟩ := hr
      repeat' (first
        | ((with_reducible apply Onw.mk); conv => whnf)
        | (with_reducible first | apply Br.tt | apply Br.ff | apply Br.no)
        | ((with_reducible apply Br.t); · assumption)
        | ((with_reducible apply Br.f); · assumption)
        | ((with_reducible apply Br.dt); · exact ab_known)
        | ((with_reducible apply Br.df); · exact ab_known)
        | (with_reducible first | refine Br.dec (fun hc => ?_) (fun hc => ?_) | refine Br.mk (fun hc => ?_) (fun hc => ?_))
        | ((with_reducible first | apply NeedRows.mk | apply NeedMap.mk | apply NeedIter.mk); · exact ab_look)
        | ((with_reducible apply NeedLen.mk); · first | assumption | rfl)
        | ((with_reducible apply NeedRow.mk); · exact ab_lookR)
        | ((with_reducible apply DrawG.mk (List.replicate 60 false)); · decide +kernel)
        | (with_reducible first | refine NewP.mk (fun id hid => ?_) | refine NilP.mk (fun e he => ?_))
        | (with_reducible first | exact trivial | exact And.intro rfl rfl)
        | ((with_reducible apply PreP.mk); · exact ab_asked)
        | refine Exists.intro _ (PreP.mk (bytesOf_lst _) ?_)
        | refine PreP.mk (lenD_lst _) ?_
        | (with_reducible first | refine PreP.mk ?_ ?_ | refine BothP.mk ?_ ?_)
        | ((with_reducible apply AncOr.anc); · decide +kernel)
        | with_reducible refine AncOr.go ?_)
      refine Run.keep [(0, i64 q), (1, .p (.lst (l.map stpRow))), (5, .ptr d 0 0), (6, .ptr r 0 0), (7, i64 ((i + 1 : Nat)))] ⟨rfl, rfl, rfl, rfl, slot64 (by omega) (by omega) (by omega), trivial⟩ ?_
      exact ih (i + 1) _ _ (by omega) ⟨by omega, rfl, ⟨⟨_, _, _, _, hD6, hR6, hdis6, hP6⟩⟩⟩
    by_cases hw1 : s.what = 3
    · obtain ⟨H5, hA, ids5, hD5, hg5⟩ := pdet17 hD4 hP.ds s.a
      have hR5 : RIs H5 r rr idsr := hR4.move hg5 (fun j hj e => hdis j e hj)
      have hrow5 := hg5.out id _ hid4 hrow8
      have hB := b28 hR5 hP.rf s.a
      have hP6 := hP.sync (name := s.a) (by omega) hD5.names
      rw [hP.sim.err hP.s0 (by omega) s.a] at hB
      generalize errM m s.a = e at hA hB
      repeat' (first
        | ((with_reducible apply Onw.mk); conv => whnf)
        | (with_reducible first | apply Br.tt | apply Br.ff | apply Br.no)
        | ((with_reducible apply Br.t); · assumption)
        | ((with_reducible apply Br.f); · assumption)
        | ((with_reducible apply Br.dt); · exact ab_known)
        | ((with_reducible apply Br.df); · exact ab_known)
        | (with_reducible first | refine Br.dec (fun hc => ?_) (fun hc => ?_) | refine Br.mk (fun hc => ?_) (fun hc => ?_))
        | (refine DetCall.go hA ?_)
        | ((with_reducible apply DrawG.mkL 10 7 1 [false, false, false, true, false, false, false]); · decide +kernel)
        | ((with_reducible first | apply NeedRows.mk | apply NeedMap.mk | apply NeedIter.mk); · exact ab_look)
        | ((with_reducible apply NeedLen.mk); · first | assumption | rfl)
        | ((with_reducible apply NeedRow.mk); · exact ab_lookR)
        | ((with_reducible apply DrawG.mk (List.replicate 60 false)); · decide +kernel)
        | (with_reducible first | refine NewP.mk (fun id hid => ?_) | refine NilP.mk (fun e he => ?_))
        | (with_reducible first | exact trivial | exact And.intro rfl rfl)
        | ((with_reducible apply PreP.mk); · exact ab_asked)
        | refine Exists.intro _ (PreP.mk (bytesOf_lst _) ?_)
        | refine PreP.mk (lenD_lst _) ?_
        | (with_reducible first | refine PreP.mk ?_ ?_ | refine BothP.mk ?_ ?_)
        | ((with_reducible apply AncOr.anc); · decide +kernel)
        | with_reducible refine AncOr.go ?_)
      refine CallOK.go hB (fun r6 H6 hr => ?_)
      obtain ⟨rfl, ids6, hR6, hg6⟩ := hr
      obtain ⟨hD6, hdis6, hrow6⟩ := two_next hD5 hg5 hR6 hg6 hR4 hdis hid4 hid4r hrow8
      repeat' (first
        | ((with_reducible apply Onw.mk); conv => whnf)
        | (with_reducible first | apply Br.tt | apply Br.ff | apply Br.no)
        | ((with_reducible apply Br.t); · assumption)
        | ((with_reducible apply Br.f); · assumption)
        | ((with_reducible apply Br.dt); · exact ab_known)
        | ((with_reducible apply Br.df); · exact ab_known)
        | (with_reducible first | refine Br.dec (fun hc => ?_) (fun hc => ?_) | refine Br.mk (fun hc => ?_) (fun hc => ?_))
        | ((with_reducible first | apply NeedRows.mk | apply NeedMap.mk | apply NeedIter.mk); · exact ab_look)
        | ((with_reducible apply NeedLen.mk); · first | assumption | rfl)
        | ((with_reducible apply NeedRow.mk); · exact ab_lookR)
        | ((with_reducible apply DrawG.mk (List.replicate 60 false)); · decide +kernel)
        | (with_reducible first | refine NewP.mk (fun id hid => ?_) | refine NilP.mk (fun e he => ?_))
        | (with_reducible first | exact trivial | exact And.intro rfl rfl)
        | ((with_reducible apply PreP.mk); · exact ab_asked)
        | refine Exists.intro _ (PreP.mk (bytesOf_lst _) ?_)
        | refine PreP.mk (lenD_lst _) ?_
        | (with_reducible first | refine PreP.mk ?_ ?_ | refine BothP.mk ?_ ?_)
        | ((with_reducible apply AncOr.anc); · decide +kernel)
        | with_reducible refine AncOr.go ?_)
      refine CallOK.go (CallOK.of_spec (s33 H6 d r _ _ ids5 ids6 s.a hD6 hR6 hP6.sim hP6.ds hP6.rf)) (fun r7 H7 hr => ?_)
      obtain ⟨rfl, rfl⟩ := hr
      repeat' (first
        | ((with_reducible apply Onw.mk); conv => whnf)
        | (with_reducible first | apply Br.tt | apply Br.ff | apply Br.no)
        | ((with_reducible apply Br.t); · assumption)
        | ((with_reducible apply Br.f); · assumption)
        | ((with_reducible apply Br.dt); · exact ab_known)
        | ((with_reducible apply Br.df); · exact ab_known)
        | (with_reducible first | refine Br.dec (fun hc => ?_) (fun hc => ?_) | refine Br.mk (fun hc => ?_) (fun hc => ?_))
        | ((with_reducible first | apply NeedRows.mk | apply NeedMap.mk | apply NeedIter.mk); · exact ab_look)
        | ((with_reducible apply NeedLen.mk); · first | assumption | rfl)
        | ((with_reducible apply NeedRow.mk); · exact ab_lookR)
        | ((with_reducible apply DrawG.mk (List.replicate 60 false)); · decide +kernel)
        | (with_reducible first | refine NewP.mk (fun id hid => ?_) | refine NilP.mk (fun e he => ?_))
        | (with_reducible first | exact trivial | exact And.intro rfl rfl)
        | ((with_reducible apply PreP.mk); · exact ab_asked)
        | refine Exists.intro _ (PreP.mk (bytesOf_lst _) ?_)
        | refine PreP.mk (lenD_lst _) ?_
        | (with_reducible first | refine PreP.mk ?_ ?_ | refine BothP.mk ?_ ?_)
        | ((with_reducible apply AncOr.anc); · decide +kernel)
        | with_reducible refine AncOr.go ?_)
      refine Run.keep [(0, i64 q), (1, .p (.lst (l.map stpRow))), (5, .ptr d 0 0), (6, .ptr r 0 0), (7, i64 ((i + 1 : Nat)))] ⟨rfl, rfl, rfl, rfl, slot64 (by omega) (by omega) (by omega), trivial⟩ ?_
      exact ih (i + 1) _ _ (by omega) ⟨by omega, rfl, ⟨⟨_, _, _, _, hD6, hR6, hdis6, hP6⟩⟩⟩
    by_cases hw2 : s.what = 4
    · obtain ⟨H5, hA, ids5, hD5, hg5⟩ := pdet25 hD4 hP.ds s.a s.b (by omega)
      have hR5 : RIs H5 r rr idsr := hR4.move hg5 (fun j hj e => hdis j e hj)
      have hrow5 := hg5.out id _ hid4 hrow8
      have hB := b29 hR5 hP.rf s.a s.b (by omega)
      have hP6 := hP.rename (a := s.a) (b := s.b) (by omega) hD5.names
      rw [hP.sim.renameE hP.s0 (by omega) s.a s.b] at hB
      generalize renameR m s.a s.b = e at hA hB
      repeat' (first
        | ((with_reducible apply Onw.mk); conv => whnf)
        | (with_reducible first | apply Br.tt | apply Br.ff | apply Br.no)
        | ((with_reducible apply Br.t); · assumption)
        | ((with_reducible apply Br.f); · assumption)
        | ((with_reducible apply Br.dt); · exact ab_known)
        | ((with_reducible apply Br.df); · exact ab_known)
        | (with_reducible first | refine Br.dec (fun hc => ?_) (fun hc => ?_) | refine Br.mk (fun hc => ?_) (fun hc => ?_))
        | (refine DetCall.go hA ?_)
        | ((with_reducible apply DrawG.mkL 14 11 1 [false, false, false, false, false, true, false, false, false, false, false]); · decide +kernel)
        | ((with_reducible first | apply NeedRows.mk | apply NeedMap.mk | apply NeedIter.mk); · exact ab_look)
        | ((with_reducible apply NeedLen.mk); · first | assumption | rfl)
        | ((with_reducible apply NeedRow.mk); · exact ab_lookR)
        | ((with_reducible apply DrawG.mk (List.replicate 60 false)); · decide +kernel)
        | (with_reducible first | refine NewP.mk (fun id hid => ?_) | refine NilP.mk (fun e he => ?_))
        | (with_reducible first | exact trivial | exact And.intro rfl rfl)
        | ((with_reducible apply PreP.mk); · exact ab_asked)
        | refine Exists.intro _ (PreP.mk (bytesOf_lst _) ?_)
        | refine PreP.mk (lenD_lst _) ?_
        | (with_reducible first | refine PreP.mk ?_ ?_ | refine BothP.mk ?_ ?_)
        | ((with_reducible apply AncOr.anc); · decide +kernel)
        | with_reducible refine AncOr.go ?_)
      refine CallOK.go hB (fun r6 H6 hr => ?_)
      obtain ⟨rfl, ids6, hR6, hg6⟩ := hr
      obtain ⟨hD6, hdis6, hrow6⟩ := two_next hD5 hg5 hR6 hg6 hR4 hdis hid4 hid4r hrow8
      repeat' (first
        | ((with_reducible apply Onw.mk); conv => whnf)
        | (with_reducible first | apply Br.tt | apply Br.ff | apply Br.no)
        | ((with_reducible apply Br.t); · assumption)
        | ((with_reducible apply Br.f); · assumption)
        | ((with_reducible apply Br.dt); · exact ab_known)
        | ((with_reducible apply Br.df); · exact ab_known)
        | (with_reducible first | refine Br.dec (fun hc => ?_) (fun hc => ?_) | refine Br.mk (fun hc => ?_) (fun hc => ?_))
        | ((with_reducible first | apply NeedRows.mk | apply NeedMap.mk | apply NeedIter.mk); · exact ab_look)
        | ((with_reducible apply NeedLen.mk); · first | assumption | rfl)
        | ((with_reducible apply NeedRow.mk); · exact ab_lookR)
        | ((with_reducible apply DrawG.mk (List.replicate 60 false)); · decide +kernel)
        | (with_reducible first | refine NewP.mk (fun id hid => ?_) | refine NilP.mk (fun e he => ?_))
        | (with_reducible first | exact trivial | exact And.intro rfl rfl)
        | ((with_reducible apply PreP.mk); · exact ab_asked)
        | refine Exists.intro _ (PreP.mk (bytesOf_lst _) ?_)
        | refine PreP.mk (lenD_lst _) ?_
        | (with_reducible first | refine PreP.mk ?_ ?_ | refine BothP.mk ?_ ?_)
        | ((with_reducible apply AncOr.anc); · decide +kernel)
        | with_reducible refine AncOr.go ?_)
      refine CallOK.go (CallOK.of_spec (s33 H6 d r _ _ ids5 ids6 s.a hD6 hR6 hP6.sim hP6.ds hP6.rf)) (fun r7 H7 hr => ?_)
      obtain ⟨rfl, rfl⟩ := hr
      repeat' (first
        | ((with_reducible apply Onw.mk); conv => whnf)
        | (with_reducible first | apply Br.tt | apply Br.ff | apply Br.no)
        | ((with_reducible apply Br.t); · assumption)
        | ((with_reducible apply Br.f); · assumption)
        | ((with_reducible apply Br.dt); · exact ab_known)
        | ((with_reducible apply Br.df); · exact ab_known)
        | (with_reducible first | refine Br.dec (fun hc => ?_) (fun hc => ?_) | refine Br.mk (fun hc => ?_) (fun hc => ?_))
        | ((with_reducible first | apply NeedRows.mk | apply NeedMap.mk | apply NeedIter.mk); · exact ab_look)
        | ((with_reducible apply NeedLen.mk); · first | assumption | rfl)
        | ((with_reducible apply NeedRow.mk); · exact ab_lookR)
        | ((with_reducible apply DrawG.mk (List.replicate 60 false)); · decide +kernel)
        | (with_reducible first | refine NewP.mk (fun id hid => ?_) | refine NilP.mk (fun e he => ?_))
        | (with_reducible first | exact trivial | exact And.intro rfl rfl)
        | ((with_reducible apply PreP.mk); · exact ab_asked)
        | refine Exists.intro _ (PreP.mk (bytesOf_lst _) ?_)
        | refine PreP.mk (lenD_lst _) ?_
        | (with_reducible first | refine PreP.mk ?_ ?_ | refine BothP.mk ?_ ?_)
        | ((with_reducible apply AncOr.anc); · decide +kernel)
        | with_reducible refine AncOr.go ?_)
      refine Run.keep [(0, i64 q), (1, .p (.lst (l.map stpRow))), (5, .ptr d 0 0), (6, .ptr r 0 0), (7, i64 ((i + 1 : Nat)))] ⟨rfl, rfl, rfl, rfl, slot64 (by omega) (by omega) (by omega), trivial⟩ ?_
      exact ih (i + 1) _ _ (by omega) ⟨by omega, rfl, ⟨⟨_, _, _, _, hD6, hR6, hdis6, hP6⟩⟩⟩
    by_cases hw3 : s.what = 5
    · obtain ⟨H5, hA, ids5, hD5, hg5⟩ := pdet21 hD4 hP.ds s.a
      have hR5 : RIs H5 r rr idsr := hR4.move hg5 (fun j hj e => hdis j e hj)
      have hrow5 := hg5.out id _ hid4 hrow8
      have hB := b30 hR5 hP.rf s.a
      have hP6 := hP.remove (name := s.a) (by omega) hD5.names
      rw [hP.sim.err hP.s0 (by omega) s.a] at hB
      generalize errM m s.a = e at hA hB
      repeat' (first
        | ((with_reducible apply Onw.mk); conv => whnf)
        | (with_reducible first | apply Br.tt | apply Br.ff | apply Br.no)
        | ((with_reducible apply Br.t); · assumption)
        | ((with_reducible apply Br.f); · assumption)
        | ((with_reducible apply Br.dt); · exact ab_known)
        | ((with_reducible apply Br.df); · exact ab_known)
        | (with_reducible first | refine Br.dec (fun hc => ?_) (fun hc => ?_) | refine Br.mk (fun hc => ?_) (fun hc => ?_))
        | (refine DetCall.go hA ?_)
        | ((with_reducible apply DrawG.mkL 10 7 1 [false, false, false, true, false, false, false]); · decide +kernel)
        | ((with_reducible first | apply NeedRows.mk | apply NeedMap.mk | apply NeedIter.mk); · exact ab_look)
        | ((with_reducible apply NeedLen.mk); · first | assumption | rfl)
        | ((with_reducible apply NeedRow.mk); · exact ab_lookR)
        | ((with_reducible apply DrawG.mk (List.replicate 60 false)); · decide +kernel)
        | (with_reducible first | refine NewP.mk (fun id hid => ?_) | refine NilP.mk (fun e he => ?_))
        | (with_reducible first | exact trivial | exact And.intro rfl rfl)
        | ((with_reducible apply PreP.mk); · exact ab_asked)
        | refine Exists.intro _ (PreP.mk (bytesOf_lst _) ?_)
        | refine PreP.mk (lenD_lst _) ?_
        | (with_reducible first | refine PreP.mk ?_ ?_ | refine BothP.mk ?_ ?_)
        | ((with_reducible apply AncOr.anc); · decide +kernel)
        | with_reducible refine AncOr.go ?_)
      refine CallOK.go hB (fun r6 H6 hr => ?_)
      obtain ⟨rfl, ids6, hR6, hg6⟩ := hr
      obtain ⟨hD6, hdis6, hrow6⟩ := two_next hD5 hg5 hR6 hg6 hR4 hdis hid4 hid4r hrow8
      repeat' (first
        | ((with_reducible apply Onw.mk); conv => whnf)
        | (with_reducible first | apply Br.tt | apply Br.ff | apply Br.no)
        | ((with_reducible apply Br.t); · assumption)
        | ((with_reducible apply Br.f); · assumption)
        | ((with_reducible apply Br.dt); · exact ab_known)
        | ((with_reducible apply Br.df); · exact ab_known)
        | (with_reducible first | refine Br.dec (fun hc => ?_) (fun hc => ?_) | refine Br.mk (fun hc => ?_) (fun hc => ?_))
        | ((with_reducible first | apply NeedRows.mk | apply NeedMap.mk | apply NeedIter.mk); · exact ab_look)
        | ((with_reducible apply NeedLen.mk); · first | assumption | rfl)
        | ((with_reducible apply NeedRow.mk); · exact ab_lookR)
        | ((with_reducible apply DrawG.mk (List.replicate 60 false)); · decide +kernel)
        | (with_reducible first | refine NewP.mk (fun id hid => ?_) | refine NilP.mk (fun e he => ?_))
        | (with_reducible first | exact trivial | exact And.intro rfl rfl)
        | ((with_reducible apply PreP.mk); · exact ab_asked)
        | refine Exists.intro _ (PreP.mk (bytesOf_lst _) ?_)
        | refine PreP.mk (lenD_lst _) ?_
        | (with_reducible first | refine PreP.mk ?_ ?_ | refine BothP.mk ?_ ?_)
        | ((with_reducible apply AncOr.anc); · decide +kernel)
        | with_reducible refine AncOr.go ?_)
      refine CallOK.go (CallOK.of_spec (s33 H6 d r _ _ ids5 ids6 s.a hD6 hR6 hP6.sim hP6.ds hP6.rf)) (fun r7 H7 hr => ?_)
      obtain ⟨rfl, rfl⟩ := hr
      repeat' (first
        | ((with_reducible apply Onw.mk); conv => whnf)
        | (with_reducible first | apply Br.tt | apply Br.ff | apply Br.no)
        | ((with_reducible apply Br.t); · assumption)
        | ((with_reducible apply Br.f); · assumption)
        | ((with_reducible apply Br.dt); · exact ab_known)
        | ((with_reducible apply Br.df); · exact ab_known)
        | (with_reducible first | refine Br.dec (fun hc => ?_) (fun hc => ?_) | refine Br.mk (fun hc => ?_) (fun hc => ?_))
        | ((with_reducible first | apply NeedRows.mk | apply NeedMap.mk | apply NeedIter.mk); · exact ab_look)
        | ((with_reducible apply NeedLen.mk); · first | assumption | rfl)
        | ((with_reducible apply NeedRow.mk); · exact ab_lookR)
        | ((with_reducible apply DrawG.mk (List.replicate 60 false)); · decide +kernel)
        | (with_reducible first | refine NewP.mk (fun id hid => ?_) | refine NilP.mk (fun e he => ?_))
        | (with_reducible first | exact trivial | exact And.intro rfl rfl)
        | ((with_reducible apply PreP.mk); · exact ab_asked)
        | refine Exists.intro _ (PreP.mk (bytesOf_lst _) ?_)
        | refine PreP.mk (lenD_lst _) ?_
        | (with_reducible first | refine PreP.mk ?_ ?_ | refine BothP.mk ?_ ?_)
        | ((with_reducible apply AncOr.anc); · decide +kernel)
        | with_reducible refine AncOr.go ?_)
      refine Run.keep [(0, i64 q), (1, .p (.lst (l.map stpRow))), (5, .ptr d 0 0), (6, .ptr r 0 0), (7, i64 ((i + 1 : Nat)))] ⟨rfl, rfl, rfl, rfl, slot64 (by omega) (by omega) (by omega), trivial⟩ ?_
      exact ih (i + 1) _ _ (by omega) ⟨by omega, rfl, ⟨⟨_, _, _, _, hD6, hR6, hdis6, hP6⟩⟩⟩
    by_cases hw4 : s.what = 6
    · repeat' (first
      | ((with_reducible apply Onw.mk); conv => whnf)
      | (with_reducible first | apply Br.tt | apply Br.ff | apply Br.no)
      | ((with_reducible apply Br.t); · assumption)
      | ((with_reducible apply Br.f); · assumption)
      | ((with_reducible apply Br.dt); · exact ab_known)
      | ((with_reducible apply Br.df); · exact ab_known)
      | (with_reducible first | refine Br.dec (fun hc => ?_) (fun hc => ?_) | refine Br.mk (fun hc => ?_) (fun hc => ?_))
      | ((with_reducible apply DrawG.mkL 6 5 1 [false, false, false, false, false]); · decide +kernel)
      | ((with_reducible first | apply NeedRows.mk | apply NeedMap.mk | apply NeedIter.mk); · exact ab_look)
      | ((with_reducible apply NeedLen.mk); · first | assumption | rfl)
      | ((with_reducible apply NeedRow.mk); · exact ab_lookR)
      | ((with_reducible apply DrawG.mk (List.replicate 60 false)); · decide +kernel)
      | (with_reducible first | refine NewP.mk (fun id hid => ?_) | refine NilP.mk (fun e he => ?_))
      | (with_reducible first | exact trivial | exact And.intro rfl rfl)
      | ((with_reducible apply PreP.mk); · exact ab_asked)
      | refine Exists.intro _ (PreP.mk (bytesOf_lst _) ?_)
      | refine PreP.mk (lenD_lst _) ?_
      | (with_reducible first | refine PreP.mk ?_ ?_ | refine BothP.mk ?_ ?_)
      | ((with_reducible apply AncOr.anc); · decide +kernel)
      | with_reducible refine AncOr.go ?_)
      refine CallOK.go (a22 hD4 hP.ds s.pat) (fun r5 H5 hr => ?_)
      obtain ⟨rfl, hD5, hg5⟩ := hr
      have hR5 : RIs H5 r rr idsr := hR4.move hg5 (fun j hj e => hdis j e hj)
      have hrow5 := hg5.out id _ hid4 hrow8
      have hP6 := hP.power (by omega) s.pat hsok.p1
      repeat' (first
        | ((with_reducible apply Onw.mk); conv => whnf)
        | (with_reducible first | apply Br.tt | apply Br.ff | apply Br.no)
        | ((with_reducible apply Br.t); · assumption)
        | ((with_reducible apply Br.f); · assumption)
        | ((with_reducible apply Br.dt); · exact ab_known)
        | ((with_reducible apply Br.df); · exact ab_known)
        | (with_reducible first | refine Br.dec (fun hc => ?_) (fun hc => ?_) | refine Br.mk (fun hc => ?_) (fun hc => ?_))
        | ((with_reducible first | apply NeedRows.mk | apply NeedMap.mk | apply NeedIter.mk); · exact ab_look)
        | ((with_reducible apply NeedLen.mk); · first | assumption | rfl)
        | ((with_reducible apply NeedRow.mk); · exact ab_lookR)
        | ((with_reducible apply DrawG.mk (List.replicate 60 false)); · decide +kernel)
        | (with_reducible first | refine NewP.mk (fun id hid => ?_) | refine NilP.mk (fun e he => ?_))
        | (with_reducible first | exact trivial | exact And.intro rfl rfl)
        | ((with_reducible apply PreP.mk); · exact ab_asked)
        | refine Exists.intro _ (PreP.mk (bytesOf_lst _) ?_)
        | refine PreP.mk (lenD_lst _) ?_
        | (with_reducible first | refine PreP.mk ?_ ?_ | refine BothP.mk ?_ ?_)
        | ((with_reducible apply AncOr.anc); · decide +kernel)
        | with_reducible refine AncOr.go ?_)
      refine CallOK.go (b31 hR5 s.pat) (fun r6 H6 hr => ?_)
      obtain ⟨rfl, hR6, hg6⟩ := hr
      obtain ⟨hD6, hdis6, hrow6⟩ := two_next hD5 hg5 hR6 hg6 hR4 hdis hid4 hid4r hrow8
      repeat' (first
        | ((with_reducible apply Onw.mk); conv => whnf)
        | (with_reducible first | apply Br.tt | apply Br.ff | apply Br.no)
        | ((with_reducible apply Br.t); · assumption)
        | ((with_reducible apply Br.f); · assumption)
        | ((with_reducible apply Br.dt); · exact ab_known)
        | ((with_reducible apply Br.df); · exact ab_known)
        | (with_reducible first | refine Br.dec (fun hc => ?_) (fun hc => ?_) | refine Br.mk (fun hc => ?_) (fun hc => ?_))
        | ((with_reducible first | apply NeedRows.mk | apply NeedMap.mk | apply NeedIter.mk); · exact ab_look)
        | ((with_reducible apply NeedLen.mk); · first | assumption | rfl)
        | ((with_reducible apply NeedRow.mk); · exact ab_lookR)
        | ((with_reducible apply DrawG.mk (List.replicate 60 false)); · decide +kernel)
        | (with_reducible first | refine NewP.mk (fun id hid => ?_) | refine NilP.mk (fun e he => ?_))
        | (with_reducible first | exact trivial | exact And.intro rfl rfl)
        | ((with_reducible apply PreP.mk); · exact ab_asked)
        | refine Exists.intro _ (PreP.mk (bytesOf_lst _) ?_)
        | refine PreP.mk (lenD_lst _) ?_
        | (with_reducible first | refine PreP.mk ?_ ?_ | refine BothP.mk ?_ ?_)
        | ((with_reducible apply AncOr.anc); · decide +kernel)
        | with_reducible refine AncOr.go ?_)
      refine CallOK.go (CallOK.of_spec (s33 H6 d r _ _ idsd idsr s.a hD6 hR6 hP6.sim hP6.ds hP6.rf)) (fun r7 H7 hr => ?_)
      obtain ⟨rfl, rfl⟩ := hr
      repeat' (first
        | ((with_reducible apply Onw.mk); conv => whnf)
        | (with_reducible first | apply Br.tt | apply Br.ff | apply Br.no)
        | ((with_reducible apply Br.t); · assumption)
        | ((with_reducible apply Br.f); · assumption)
        | ((with_reducible apply Br.dt); · exact ab_known)
        | ((with_reducible apply Br.df); · exact ab_known)
        | (with_reducible first | refine Br.dec (fun hc => ?_) (fun hc => ?_) | refine Br.mk (fun hc => ?_) (fun hc => ?_))
        | ((with_reducible first | apply NeedRows.mk | apply NeedMap.mk | apply NeedIter.mk); · exact ab_look)
        | ((with_reducible apply NeedLen.mk); · first | assumption | rfl)
        | ((with_reducible apply NeedRow.mk); · exact ab_lookR)
        | ((with_reducible apply DrawG.mk (List.replicate 60 false)); · decide +kernel)
        | (with_reducible first | refine NewP.mk (fun id hid => ?_) | refine NilP.mk (fun e he => ?_))
        | (with_reducible first | exact trivial | exact And.intro rfl rfl)
        | ((with_reducible apply PreP.mk); · exact ab_asked)
        | refine Exists.intro _ (PreP.mk (bytesOf_lst _) ?_)
        | refine PreP.mk (lenD_lst _) ?_
        | (with_reducible first | refine PreP.mk ?_ ?_ | refine BothP.mk ?_ ?_)
        | ((with_reducible apply AncOr.anc); · decide +kernel)
        | with_reducible refine AncOr.go ?_)
      refine Run.keep [(0, i64 q), (1, .p (.lst (l.map stpRow))), (5, .ptr d 0 0), (6, .ptr r 0 0), (7, i64 ((i + 1 : Nat)))] ⟨rfl, rfl, rfl, rfl, slot64 (by omega) (by omega) (by omega), trivial⟩ ?_
      exact ih (i + 1) _ _ (by omega) ⟨by omega, rfl, ⟨⟨_, _, _, _, hD6, hR6, hdis6, hP6⟩⟩⟩
    repeat' (first
      | ((with_reducible apply Onw.mk); conv => whnf)
      | (with_reducible first | apply Br.tt | apply Br.ff | apply Br.no)
      | ((with_reducible apply Br.t); · assumption)
      | ((with_reducible apply Br.f); · assumption)
      | ((with_reducible apply Br.dt); · exact ab_known)
      | ((with_reducible apply Br.df); · exact ab_known)
      | (with_reducible first | refine Br.dec (fun hc => ?_) (fun hc => ?_) | refine Br.mk (fun hc => ?_) (fun hc => ?_))
      | ((with_reducible first | apply NeedRows.mk | apply NeedMap.mk | apply NeedIter.mk); · exact ab_look)
      | ((with_reducible apply NeedLen.mk); · first | assumption | rfl)
      | ((with_reducible apply NeedRow.mk); · exact ab_lookR)
      | ((with_reducible apply DrawG.mk (List.replicate 60 false)); · decide +kernel)
      | (with_reducible first | refine NewP.mk (fun id hid => ?_) | refine NilP.mk (fun e he => ?_))
      | (with_reducible first | exact trivial | exact And.intro rfl rfl)
      | ((with_reducible apply PreP.mk); · exact ab_asked)
      | refine Exists.intro _ (PreP.mk (bytesOf_lst _) ?_)
      | refine PreP.mk (lenD_lst _) ?_
      | (with_reducible first | refine PreP.mk ?_ ?_ | refine BothP.mk ?_ ?_)
      | ((with_reducible apply AncOr.anc); · decide +kernel)
      | with_reducible refine AncOr.go ?_)
    refine CallOK.go (a18 hD4 hP.ds s.ch (by omega)) (fun r5 H5 hr => ?_)
    obtain ⟨rfl, ids5, hD5, hg5⟩ := hr
    have hR5 : RIs H5 r rr idsr := hR4.move hg5 (fun j hj e => hdis j e hj)
    have hrow5 := hg5.out id _ hid4 hrow8
    have hP6 := hP.crash (by omega) s.ch hD5.names
    repeat' (first
      | ((with_reducible apply Onw.mk); conv => whnf)
      | (with_reducible first | apply Br.tt | apply Br.ff | apply Br.no)
      | ((with_reducible apply Br.t); · assumption)
      | ((with_reducible apply Br.f); · assumption)
      | ((with_reducible apply Br.dt); · exact ab_known)
      | ((with_reducible apply Br.df); · exact ab_known)
      | (with_reducible first | refine Br.dec (fun hc => ?_) (fun hc => ?_) | refine Br.mk (fun hc => ?_) (fun hc => ?_))
      | ((with_reducible first | apply NeedRows.mk | apply NeedMap.mk | apply NeedIter.mk); · exact ab_look)
      | ((with_reducible apply NeedLen.mk); · first | assumption | rfl)
      | ((with_reducible apply NeedRow.mk); · exact ab_lookR)
      | ((with_reducible apply DrawG.mk (List.replicate 60 false)); · decide +kernel)
      | (with_reducible first | refine NewP.mk (fun id hid => ?_) | refine NilP.mk (fun e he => ?_))
      | (with_reducible first | exact trivial | exact And.intro rfl rfl)
      | ((with_reducible apply PreP.mk); · exact ab_asked)
      | refine Exists.intro _ (PreP.mk (bytesOf_lst _) ?_)
      | refine PreP.mk (lenD_lst _) ?_
      | (with_reducible first | refine PreP.mk ?_ ?_ | refine BothP.mk ?_ ?_)
      | ((with_reducible apply AncOr.anc); · decide +kernel)
      | with_reducible refine AncOr.go ?_)
    refine CallOK.go (b32 hR5 hP.rf s.ch (by omega)) (fun r6 H6 hr => ?_)
    obtain ⟨rfl, ids6, hR6, hg6⟩ := hr
    obtain ⟨hD6, hdis6, hrow6⟩ := two_next hD5 hg5 hR6 hg6 hR4 hdis hid4 hid4r hrow8
    repeat' (first
      | ((with_reducible apply Onw.mk); conv => whnf)
      | (with_reducible first | apply Br.tt | apply Br.ff | apply Br.no)
      | ((with_reducible apply Br.t); · assumption)
      | ((with_reducible apply Br.f); · assumption)
      | ((with_reducible apply Br.dt); · exact ab_known)
      | ((with_reducible apply Br.df); · exact ab_known)
      | (with_reducible first | refine Br.dec (fun hc => ?_) (fun hc => ?_) | refine Br.mk (fun hc => ?_) (fun hc => ?_))
      | ((with_reducible first | apply NeedRows.mk | apply NeedMap.mk | apply NeedIter.mk); · exact ab_look)
      | ((with_reducible apply NeedLen.mk); · first | assumption | rfl)
      | ((with_reducible apply NeedRow.mk); · exact ab_lookR)
      | ((with_reducible apply DrawG.mk (List.replicate 60 false)); · decide +kernel)
      | (with_reducible first | refine NewP.mk (fun id hid => ?_) | refine NilP.mk (fun e he => ?_))
      | (with_reducible first | exact trivial | exact And.intro rfl rfl)
      | ((with_reducible apply PreP.mk); · exact ab_asked)
      | refine Exists.intro _ (PreP.mk (bytesOf_lst _) ?_)
      | refine PreP.mk (lenD_lst _) ?_
      | (with_reducible first | refine PreP.mk ?_ ?_ | refine BothP.mk ?_ ?_)
      | ((with_reducible apply AncOr.anc); · decide +kernel)
      | with_reducible refine AncOr.go ?_)
    refine CallOK.go (CallOK.of_spec (s33 H6 d r _ _ ids5 ids6 s.a hD6 hR6 hP6.sim hP6.ds hP6.rf)) (fun r7 H7 hr => ?_)
    obtain ⟨rfl, rfl⟩ := hr
    repeat' (first
      | ((with_reducible apply Onw.mk); conv => whnf)
      | (with_reducible first | apply Br.tt | apply Br.ff | apply Br.no)
      | ((with_reducible apply Br.t); · assumption)
      | ((with_reducible apply Br.f); · assumption)
      | ((with_reducible apply Br.dt); · exact ab_known)
      | ((with_reducible apply Br.df); · exact ab_known)
      | (with_reducible first | refine Br.dec (fun hc => ?_) (fun hc => ?_) | refine Br.mk (fun hc => ?_) (fun hc => ?_))
      | ((with_reducible first | apply NeedRows.mk | apply NeedMap.mk | apply NeedIter.mk); · exact ab_look)
      | ((with_reducible apply NeedLen.mk); · first | assumption | rfl)
      | ((with_reducible apply NeedRow.mk); · exact ab_lookR)
      | ((with_reducible apply DrawG.mk (List.replicate 60 false)); · decide +kernel)
      | (with_reducible first | refine NewP.mk (fun id hid => ?_) | refine NilP.mk (fun e he => ?_))
      | (with_reducible first | exact trivial | exact And.intro rfl rfl)
      | ((with_reducible apply PreP.mk); · exact ab_asked)
      | refine Exists.intro _ (PreP.mk (bytesOf_lst _) ?_)
      | refine PreP.mk (lenD_lst _) ?_
      | (with_reducible first | refine PreP.mk ?_ ?_ | refine BothP.mk ?_ ?_)
      | ((with_reducible apply AncOr.anc); · decide +kernel)
      | with_reducible refine AncOr.go ?_)
    refine Run.keep [(0, i64 q), (1, .p (.lst (l.map stpRow))), (5, .ptr d 0 0), (6, .ptr r 0 0), (7, i64 ((i + 1 : Nat)))] ⟨rfl, rfl, rfl, rfl, slot64 (by omega) (by omega) (by omega), trivial⟩ ?_
    exact ih (i + 1) _ _ (by omega) ⟨by omega, rfl, ⟨⟨_, _, _, _, hD6, hR6, hdis6, hP6⟩⟩⟩
  · have hc1 : ¬ (i : Int) < ((l.map stpRow).length : Int) := by rw [hll]; omega
    have hn1 := hP.s1
    have hn2 := hP.u
    have hn3 := hP.sim.used
    have hn4 := hP.n
    have hn5 := hP.s0
    have hn6 := hP.sim.len
    have hds := hP.ds
    obtain ⟨k, hk, kok, rfl, rfl⟩ := hD
    refine Run.walk hm Try.func7 300 ?_
    repeat' (first
      | ((with_reducible apply Onw.mk); conv => whnf)
      | (with_reducible first | apply Br.tt | apply Br.ff | apply Br.no)
      | ((with_reducible apply Br.t); · assumption)
      | ((with_reducible apply Br.f); · assumption)
      | ((with_reducible apply Br.dt); · exact ab_known)
      | ((with_reducible apply Br.df); · exact ab_known)
      | (with_reducible first | refine Br.dec (fun hc => ?_) (fun hc => ?_) | refine Br.mk (fun hc => ?_) (fun hc => ?_))
      | ((with_reducible first | apply NeedRows.mk | apply NeedMap.mk | apply NeedIter.mk); · exact ab_look)
      | ((with_reducible apply NeedLen.mk); · first | assumption | rfl)
      | ((with_reducible apply NeedRow.mk); · exact ab_lookR)
      | ((with_reducible apply DrawG.mk (List.replicate 60 false)); · decide +kernel)
      | (with_reducible first | refine NewP.mk (fun id hid => ?_) | refine NilP.mk (fun e he => ?_))
      | (with_reducible first | exact trivial | exact And.intro rfl rfl)
      | ((with_reducible apply PreP.mk); · exact ab_asked)
      | refine Exists.intro _ (PreP.mk (bytesOf_lst _) ?_)
      | refine PreP.mk (lenD_lst _) ?_
      | (with_reducible first | refine PreP.mk ?_ ?_ | refine BothP.mk ?_ ?_)
      | ((with_reducible apply AncOr.anc); · decide +kernel)
      | with_reducible refine AncOr.go ?_)
    refine CallOK.go (CallOK.of_spec (s34 H d k hk kok)) (fun r5 H5 hr => ?_)
    obtain ⟨c, k2, rfl, hk2, kok2, e1, e2, e3, e4, e5, hg5⟩ := hr
    rw [usedM_plain] at hn3
    have hfl : k.files.length ≤ 80 := by have : (plain k).files.length = k.files.length := by simp [plain]
                                         omega
    have hfu : k.files.length * usedN k ≤ 80 * usedN k := Nat.mul_le_mul_right _ hfl
    have e6 : (plain k2).steps = (plain k).steps := e1
    have hok2 : DsOK (plain k2) := ⟨by omega, by omega, by rw [usedM_plain]; omega, by simp [plain]; omega⟩
    have hD2 : DiskIs H5 c (plain k2) (idsD c k2) := ⟨k2, hk2, kok2, rfl, rfl⟩
    have hD5 : DiskIs H5 d (plain k) (idsD d k) := DiskIs.move ⟨k, hk, kok, rfl, rfl⟩ hg5 (fun j _ hj => by cases hj)
    have hR5 := hR.move hg5 (fun j _ hj => by cases hj)
    have hltd : ∀ j ∈ idsD d k, j < H.length := hk.ids_lt
    have hltr := hR.lt
    have hapd : ∀ j ∈ idsD d k, j ∉ idsD c k2 := hg5.apart (fun j _ hj => by cases hj) hltd
    have hapr : ∀ j ∈ idsr, j ∉ idsD c k2 := hg5.apart (fun j _ hj => by cases hj) hltr
    repeat' (first
      | ((with_reducible apply Onw.mk); conv => whnf)
      | (with_reducible first | apply Br.tt | apply Br.ff | apply Br.no)
      | ((with_reducible apply Br.t); · assumption)
      | ((with_reducible apply Br.f); · assumption)
      | ((with_reducible apply Br.dt); · exact ab_known)
      | ((with_reducible apply Br.df); · exact ab_known)
      | (with_reducible first | refine Br.dec (fun hc => ?_) (fun hc => ?_) | refine Br.mk (fun hc => ?_) (fun hc => ?_))
      | ((with_reducible first | apply NeedRows.mk | apply NeedMap.mk | apply NeedIter.mk); · exact ab_look)
      | ((with_reducible apply NeedLen.mk); · first | assumption | rfl)
      | ((with_reducible apply NeedRow.mk); · exact ab_lookR)
      | ((with_reducible apply DrawG.mk (List.replicate 60 false)); · decide +kernel)
      | (with_reducible first | refine NewP.mk (fun id hid => ?_) | refine NilP.mk (fun e he => ?_))
      | (with_reducible first | exact trivial | exact And.intro rfl rfl)
      | ((with_reducible apply PreP.mk); · exact ab_asked)
      | refine Exists.intro _ (PreP.mk (bytesOf_lst _) ?_)
      | refine PreP.mk (lenD_lst _) ?_
      | (with_reducible first | refine PreP.mk ?_ ?_ | refine BothP.mk ?_ ?_)
      | ((with_reducible apply AncOr.anc); · decide +kernel)
      | with_reducible refine AncOr.go ?_)
    refine NewSlice.own (fun id hid => ?_)
    repeat' (first
      | ((with_reducible apply Onw.mk); conv => whnf)
      | (with_reducible first | apply Br.tt | apply Br.ff | apply Br.no)
      | ((with_reducible apply Br.t); · assumption)
      | ((with_reducible apply Br.f); · assumption)
      | ((with_reducible apply Br.dt); · exact ab_known)
      | ((with_reducible apply Br.df); · exact ab_known)
      | (with_reducible first | refine Br.dec (fun hc => ?_) (fun hc => ?_) | refine Br.mk (fun hc => ?_) (fun hc => ?_))
      | ((with_reducible first | apply NeedRows.mk | apply NeedMap.mk | apply NeedIter.mk); · exact ab_look)
      | ((with_reducible apply NeedLen.mk); · first | assumption | rfl)
      | ((with_reducible apply NeedRow.mk); · exact ab_lookR)
      | ((with_reducible apply DrawG.mk (List.replicate 60 false)); · decide +kernel)
      | (with_reducible first | refine NewP.mk (fun id hid => ?_) | refine NilP.mk (fun e he => ?_))
      | (with_reducible first | exact trivial | exact And.intro rfl rfl)
      | ((with_reducible apply PreP.mk); · exact ab_asked)
      | refine Exists.intro _ (PreP.mk (bytesOf_lst _) ?_)
      | refine PreP.mk (lenD_lst _) ?_
      | (with_reducible first | refine PreP.mk ?_ ?_ | refine BothP.mk ?_ ?_)
      | ((with_reducible apply AncOr.anc); · decide +kernel)
      | with_reducible refine AncOr.go ?_)
    refine CallOK.frzB (pre := [_, _]) (post := []) [113] (nth_new hid) rfl rfl ?_
    have hgt := tmp_goes H5 (.rows [[D.p (.int .u8 113)]]) .gone hid
    have hD2' := hD2.move hgt (fun j _ hj => by cases hj)
    have hD5' := hD5.move hgt (fun j _ hj => by cases hj)
    have hR5' := hR5.move hgt (fun j _ hj => by cases hj)
    have hl5 := hD5.lt
    have hl5r := hR5.lt
    refine CallOK.go (a16 hD2' hok2 [122, 122] [113] (by decide) (by decide)) (fun r6 H6 hr => ?_)
    obtain ⟨rfl, ids6, hD6, hg6⟩ := hr
    have hD6d := hD5'.move hg6 hapd
    have hR6 := hR5'.move hg6 hapr
    have hapd6 := hg6.apart hapd hD5'.lt
    have hapr6 := hg6.apart hapr hR5'.lt
    have hok6 : DsOK (appendM (plain k2) [122, 122] [113]) := appendM_ok hok2 [122, 122] [113] (by omega) (by rw [usedM_plain]; simp [plain]; omega) (by simp [plain]; omega)
    repeat' (first
      | ((with_reducible apply Onw.mk); conv => whnf)
      | (with_reducible first | apply Br.tt | apply Br.ff | apply Br.no)
      | ((with_reducible apply Br.t); · assumption)
      | ((with_reducible apply Br.f); · assumption)
      | ((with_reducible apply Br.dt); · exact ab_known)
      | ((with_reducible apply Br.df); · exact ab_known)
      | (with_reducible first | refine Br.dec (fun hc => ?_) (fun hc => ?_) | refine Br.mk (fun hc => ?_) (fun hc => ?_))
      | ((with_reducible first | apply NeedRows.mk | apply NeedMap.mk | apply NeedIter.mk); · exact ab_look)
      | ((with_reducible apply NeedLen.mk); · first | assumption | rfl)
      | ((with_reducible apply NeedRow.mk); · exact ab_lookR)
      | ((with_reducible apply DrawG.mk (List.replicate 60 false)); · decide +kernel)
      | (with_reducible first | refine NewP.mk (fun id hid => ?_) | refine NilP.mk (fun e he => ?_))
      | (with_reducible first | exact trivial | exact And.intro rfl rfl)
      | ((with_reducible apply PreP.mk); · exact ab_asked)
      | refine Exists.intro _ (PreP.mk (bytesOf_lst _) ?_)
      | refine PreP.mk (lenD_lst _) ?_
      | (with_reducible first | refine PreP.mk ?_ ?_ | refine BothP.mk ?_ ?_)
      | ((with_reducible apply AncOr.anc); · decide +kernel)
      | with_reducible refine AncOr.go ?_)
    refine CallOK.go (a18nil hD6 hok6) (fun r7 H7 hr => ?_)
    obtain ⟨rfl, ids7, hD7, hg7⟩ := hr
    have hD7d := hD6d.move hg7 hapd6
    have hR7 := hR6.move hg7 hapr6
    repeat' (first
      | ((with_reducible apply Onw.mk); conv => whnf)
      | (with_reducible first | apply Br.tt | apply Br.ff | apply Br.no)
      | ((with_reducible apply Br.t); · assumption)
      | ((with_reducible apply Br.f); · assumption)
      | ((with_reducible apply Br.dt); · exact ab_known)
      | ((with_reducible apply Br.df); · exact ab_known)
      | (with_reducible first | refine Br.dec (fun hc => ?_) (fun hc => ?_) | refine Br.mk (fun hc => ?_) (fun hc => ?_))
      | ((with_reducible first | apply NeedRows.mk | apply NeedMap.mk | apply NeedIter.mk); · exact ab_look)
      | ((with_reducible apply NeedLen.mk); · first | assumption | rfl)
      | ((with_reducible apply NeedRow.mk); · exact ab_lookR)
      | ((with_reducible apply DrawG.mk (List.replicate 60 false)); · decide +kernel)
      | (with_reducible first | refine NewP.mk (fun id hid => ?_) | refine NilP.mk (fun e he => ?_))
      | (with_reducible first | exact trivial | exact And.intro rfl rfl)
      | ((with_reducible apply PreP.mk); · exact ab_asked)
      | refine Exists.intro _ (PreP.mk (bytesOf_lst _) ?_)
      | refine PreP.mk (lenD_lst _) ?_
      | (with_reducible first | refine PreP.mk ?_ ?_ | refine BothP.mk ?_ ?_)
      | ((with_reducible apply AncOr.anc); · decide +kernel)
      | with_reducible refine AncOr.go ?_)
    refine CallOK.go (CallOK.of_spec (s33 H7 d r _ _ (idsD d k) idsr [122, 122] hD7d hR7 hP.sim hds hP.rf)) (fun r8 H8 hr => ?_)
    obtain ⟨rfl, rfl⟩ := hr
    repeat' (first
      | ((with_reducible apply Onw.mk); conv => whnf)
      | (with_reducible first | apply Br.tt | apply Br.ff | apply Br.no)
      | ((with_reducible apply Br.t); · assumption)
      | ((with_reducible apply Br.f); · assumption)
      | ((with_reducible apply Br.dt); · exact ab_known)
      | ((with_reducible apply Br.df); · exact ab_known)
      | (with_reducible first | refine Br.dec (fun hc => ?_) (fun hc => ?_) | refine Br.mk (fun hc => ?_) (fun hc => ?_))
      | ((with_reducible first | apply NeedRows.mk | apply NeedMap.mk | apply NeedIter.mk); · exact ab_look)
      | ((with_reducible apply NeedLen.mk); · first | assumption | rfl)
      | ((with_reducible apply NeedRow.mk); · exact ab_lookR)
      | ((with_reducible apply DrawG.mk (List.replicate 60 false)); · decide +kernel)
      | (with_reducible first | refine NewP.mk (fun id hid => ?_) | refine NilP.mk (fun e he => ?_))
      | (with_reducible first | exact trivial | exact And.intro rfl rfl)
      | ((with_reducible apply PreP.mk); · exact ab_asked)
      | refine Exists.intro _ (PreP.mk (bytesOf_lst _) ?_)
      | refine PreP.mk (lenD_lst _) ?_
      | (with_reducible first | refine PreP.mk ?_ ?_ | refine BothP.mk ?_ ?_)
      | ((with_reducible apply AncOr.anc); · decide +kernel)
      | with_reducible refine AncOr.go ?_)
    rfl
end Go.Proofs.Ytanknokhbfijdaa
