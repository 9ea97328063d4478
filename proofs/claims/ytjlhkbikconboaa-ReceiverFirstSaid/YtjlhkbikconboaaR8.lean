/- What functions of the receiver, of labels, rows, batches, and of the laws over them, do. Conditions: those that each theorem names. -/
import Derived.Test.YtjlhkbikconboaaR6
import Derived.Test.YtjlhkbikconboaaKc
set_option linter.unusedVariables false
set_option linter.unusedSimpArgs false
namespace Go.Proofs.Ytjlhkbikconboaa
open Go.Ab
set_option maxRecDepth 100000
set_option maxHeartbeats 1000000
attribute [local irreducible] Run CallOK DetCall Br PreP BothP AncOr Onw NeedRows NeedMap NeedRow NeedLen NilP NeedIter RoundP EntryP EqP OptP NewP NewSlice NewMade AppTo DrawG anc drawB
theorem RcAt.set {H : Heap} {r mid id : Nat} {low : Int} {l : List (Int × Int)} {bs : List Nat} {ck : Nat} {o : Ab.Obj} (h : RcAt H r mid low l bs ck) (hid : id ∉ [r, mid]) : RcAt (setN H id o) r mid low l bs ck := by
  simp only [List.mem_cons, List.not_mem_nil, or_false, not_or] at hid
  exact ⟨nth_setN_ne hid.1 h.row, nth_setN_ne hid.2 h.map, h.ok, h.ne, h.keys⟩
theorem nth_i64 {fs : List Int} {k : Nat} (h : k < fs.length) : nth (fs.map i64) k = some (i64 (fs.getD k 0)) := by
  rw [nth_eq, List.getElem?_map]
  simp [List.getD, h]
theorem getD_rep (n j : Nat) : (List.replicate n (0 : Int)).getD j 0 = 0 := by
  rw [List.getD_eq_getElem?_getD, List.getElem?_replicate]; split <;> rfl
theorem set_i64 (fs : List Int) (k : Nat) (t : Int) : (fs.map i64).set k (i64 t) = (fs.set k t).map i64 := by rw [List.map_set]
theorem s4 (H : Heap) (b : List UInt8) : Ab.Spec Try.prog 4 [.p (.lst (b.map byteRow))] H (fun res _ => res = boolD true) := by
  have hbl : ((b.map byteRow).length : Int) = b.length := by simp
  refine Ab.Spec.walk hm Try.func4 (by kernel_rfl) 100 ?_
  repeat' (first
    | ((with_reducible apply Onw.mk); conv => whnf)
    | (with_reducible first | apply Br.tt | apply Br.ff | apply Br.no)
    | ((with_reducible apply Br.t); · assumption)
    | ((with_reducible apply Br.f); · assumption)
    | ((with_reducible apply Br.dt); · exact ab_known)
    | ((with_reducible apply Br.df); · exact ab_known)
    | (with_reducible first | refine Br.dec (fun hc => ?_) (fun hc => ?_) | refine Br.mk (fun hc => ?_) (fun hc => ?_))
    | ((with_reducible first | apply NeedRows.mk | apply NeedMap.mk | apply NeedIter.mk); · exact ab_look)
    | ((with_reducible apply NeedLen.mk); · first | assumption | rfl)
    | ((with_reducible apply NeedRow.mk); · exact ab_lookR)
    | ((with_reducible apply DrawG.mk (List.replicate 60 false)); · decide +kernel)
    | (with_reducible first | refine NewP.mk (fun id hid => ?_) | refine NilP.mk (fun e he => ?_))
    | (with_reducible first | exact trivial | exact And.intro rfl rfl)
    | ((with_reducible apply PreP.mk); · exact ab_asked)
    | refine Exists.intro _ (PreP.mk (bytesOf_lst _) ?_)
    | refine PreP.mk (lenD_lst _) ?_
    | (with_reducible first | refine PreP.mk ?_ ?_ | refine BothP.mk ?_ ?_)
    | ((with_reducible apply AncOr.anc); · decide +kernel)
    | with_reducible refine AncOr.go ?_)
  refine CallOK.go (c7 _) (fun r2 H2 hr => ?_)
  obtain ⟨rfl, he2⟩ := hr
  rw [he2]; clear he2 H2
  rcases Nat.lt_or_ge 60 b.length with hb60 | hb60
  · have hc : (60 : Int) < ((b.map byteRow).length : Int) := by rw [hbl]; omega
    repeat' (first
      | ((with_reducible apply Onw.mk); conv => whnf)
      | (with_reducible first | apply Br.tt | apply Br.ff | apply Br.no)
      | ((with_reducible apply Br.t); · assumption)
      | ((with_reducible apply Br.f); · assumption)
      | ((with_reducible apply Br.dt); · exact ab_known)
      | ((with_reducible apply Br.df); · exact ab_known)
      | (with_reducible first | refine Br.dec (fun hc => ?_) (fun hc => ?_) | refine Br.mk (fun hc => ?_) (fun hc => ?_))
      | ((with_reducible first | apply NeedRows.mk | apply NeedMap.mk | apply NeedIter.mk); · exact ab_look)
      | ((with_reducible apply NeedLen.mk); · first | assumption | rfl)
      | ((with_reducible apply NeedRow.mk); · exact ab_lookR)
      | ((with_reducible apply DrawG.mk (List.replicate 60 false)); · decide +kernel)
      | (with_reducible first | refine NewP.mk (fun id hid => ?_) | refine NilP.mk (fun e he => ?_))
      | (with_reducible first | exact trivial | exact And.intro rfl rfl)
      | ((with_reducible apply PreP.mk); · exact ab_asked)
      | refine Exists.intro _ (PreP.mk (bytesOf_lst _) ?_)
      | refine PreP.mk (lenD_lst _) ?_
      | (with_reducible first | refine PreP.mk ?_ ?_ | refine BothP.mk ?_ ?_)
      | ((with_reducible apply AncOr.anc); · decide +kernel)
      | with_reducible refine AncOr.go ?_)
    rfl
  have hc : ¬ (60 : Int) < ((b.map byteRow).length : Int) := by rw [hbl]; omega
  repeat' (first
    | ((with_reducible apply Onw.mk); conv => whnf)
    | (with_reducible first | apply Br.tt | apply Br.ff | apply Br.no)
    | ((with_reducible apply Br.t); · assumption)
    | ((with_reducible apply Br.f); · assumption)
    | ((with_reducible apply Br.dt); · exact ab_known)
    | ((with_reducible apply Br.df); · exact ab_known)
    | (with_reducible first | refine Br.dec (fun hc => ?_) (fun hc => ?_) | refine Br.mk (fun hc => ?_) (fun hc => ?_))
    | ((with_reducible first | apply NeedRows.mk | apply NeedMap.mk | apply NeedIter.mk); · exact ab_look)
    | ((with_reducible apply NeedLen.mk); · first | assumption | rfl)
    | ((with_reducible apply NeedRow.mk); · exact ab_lookR)
    | ((with_reducible apply DrawG.mk (List.replicate 60 false)); · decide +kernel)
    | (with_reducible first | refine NewP.mk (fun id hid => ?_) | refine NilP.mk (fun e he => ?_))
    | (with_reducible first | exact trivial | exact And.intro rfl rfl)
    | ((with_reducible apply PreP.mk); · exact ab_asked)
    | refine Exists.intro _ (PreP.mk (bytesOf_lst _) ?_)
    | refine PreP.mk (lenD_lst _) ?_
    | (with_reducible first | refine PreP.mk ?_ ?_ | refine BothP.mk ?_ ?_)
    | ((with_reducible apply AncOr.anc); · decide +kernel)
    | with_reducible refine AncOr.go ?_)
  refine CallOK.go (CallOK.of_spec (s8 _)) (fun r1 H1 hr => ?_)
  obtain ⟨r, mid, rfl, h1, hge1, hge2, x1, hx1⟩ := hr
  repeat' (first
    | ((with_reducible apply Onw.mk); conv => whnf)
    | (with_reducible first | apply Br.tt | apply Br.ff | apply Br.no)
    | ((with_reducible apply Br.t); · assumption)
    | ((with_reducible apply Br.f); · assumption)
    | ((with_reducible apply Br.dt); · exact ab_known)
    | ((with_reducible apply Br.df); · exact ab_known)
    | (with_reducible first | refine Br.dec (fun hc => ?_) (fun hc => ?_) | refine Br.mk (fun hc => ?_) (fun hc => ?_))
    | ((with_reducible first | apply NeedRows.mk | apply NeedMap.mk | apply NeedIter.mk); · exact ab_look)
    | ((with_reducible apply NeedLen.mk); · first | assumption | rfl)
    | ((with_reducible apply NeedRow.mk); · exact ab_lookR)
    | ((with_reducible apply DrawG.mk (List.replicate 60 false)); · decide +kernel)
    | (with_reducible first | refine NewP.mk (fun id hid => ?_) | refine NilP.mk (fun e he => ?_))
    | (with_reducible first | exact trivial | exact And.intro rfl rfl)
    | ((with_reducible apply PreP.mk); · exact ab_asked)
    | refine Exists.intro _ (PreP.mk (bytesOf_lst _) ?_)
    | refine PreP.mk (lenD_lst _) ?_
    | (with_reducible first | refine PreP.mk ?_ ?_ | refine BothP.mk ?_ ?_)
    | ((with_reducible apply AncOr.anc); · decide +kernel)
    | with_reducible refine AncOr.go ?_)
  have hltm := nth_lt h1.map
  have hltr := nth_lt h1.row
  refine Run.keep [(0, .p (.lst (b.map byteRow))), (3, .ptr r 0 0), (4, .ptr id 0 0), (5, i64 (0 : Nat)), (6, i64 (0 : Nat))] ⟨rfl, rfl, rfl, rfl, rfl, trivial⟩ ?_
  refine Run.rounds (fun (i : Nat) T H2 => ∃ (fs : List Int) (l : List (Int × Int)) (bs : List Nat) (ck : Nat) (low0 : Int), T = [(0, .p (.lst (b.map byteRow))), (3, .ptr r 0 0), (4, .ptr id 0 0), (5, i64 l.length), (6, i64 i)] ∧ i ≤ b.length ∧ l.length ≤ i ∧
    RcAt H2 r mid low0 l bs ck ∧ (low0 = 0 ∨ low0 = 1) ∧ nth H2 id = some (.rows [fs.map i64]) ∧ fs.length = 32 ∧ (∀ p ∈ l, 1 ≤ p.1 ∧ p.1 ≤ 30 ∧ 1 ≤ p.2 ∧ fs.getD p.1.toNat 0 = p.2) ∧ (∀ j : Nat, (j : Int) ∉ l.map (·.1) → fs.getD j 0 = 0)) (fun i => b.length - i) ?_ (x := 0)
    ⟨List.replicate 32 0, [], [], 0, 0, rfl, Nat.zero_le _, Nat.le_refl _, h1.more _, .inl rfl, nth_new hid, rfl, by simp, fun j _ => getD_rep 32 j⟩
  rintro i T H2 ⟨fs, l, bs, ck, low0, rfl, hib, hli, h2, hlow0, hrow, hfl, hA, hB⟩ ih
  have hks : ∀ j ∈ l.map (·.1), j ≤ 1000 := fun j hj => by
    obtain ⟨p, hp, rfl⟩ := List.mem_map.1 hj
    have := (hA p hp).2.1; omega
  have hl0 : (if low0 < 1 then 1 else low0) = 1 := by split <;> omega
  have hne1 : id ∉ [r, mid] := by simp; omega
  refine Run.walk hm Try.func4 100 ?_
  rcases Nat.lt_or_ge i b.length with hi2 | hi2
  · have hc1 : (i : Int) < ((b.map byteRow).length : Int) := by rw [hbl]; omega
    obtain ⟨c, hcb⟩ : ∃ c, b[i]? = some c := ⟨b[i], by simp [hi2]⟩
    have hri : Ab.rowAt (b.map byteRow) (i : Int).toNat = byteRow c := rowAt_map hcb
    have hrl : (Ab.rowAt (b.map byteRow) (i : Int).toNat).length = 1 := by rw [hri]; rfl
    have hrp : (0 : Int) ≤ (i : Int) ∧ (i : Int) < ((b.map byteRow).length : Int) ∧ (Ab.rowAt (b.map byteRow) (i : Int).toNat).length = 1 := ⟨by omega, hc1, hrl⟩
    generalize hn : c.toNat % 30 + 1 = n
    have hy : c.toNat % 30 < 30 := Nat.mod_lt _ (by omega)
    have hn1 : 1 ≤ n ∧ n ≤ 30 := by omega
    have wn : IntKind.i64.wrap (IntKind.i64.wrap ((c.toNat : Int).tmod 30) + 1) = (n : Int) := by
      have e : (c.toNat : Int).tmod 30 = ((c.toNat % 30 : Nat) : Int) := (Int.ofNat_tmod c.toNat 30).symm
      rw [e]; generalize c.toNat % 30 = y at hn hy
      rw [wrap64 (n := (y : Int)) (by omega) (by omega), wrap64 (by omega) (by omega)]; omega
    have wi : IntKind.i64.wrap ((i : Int) + 1) = (i : Int) + 1 := wrap64 (by omega) (by omega)
    have hpi : (0 : Int) ≤ IntKind.i64.wrap (IntKind.i64.wrap ((c.toNat : Int).tmod 30) + 1) ∧ IntKind.i64.wrap (IntKind.i64.wrap ((c.toNat : Int).tmod 30) + 1) < 32 := by rw [wn]; omega
    have hld : nth (fs.map i64) (0 + (IntKind.i64.wrap (IntKind.i64.wrap ((c.toNat : Int).tmod 30) + 1)).toNat * 1) = some (i64 (fs.getD n 0)) := by
      rw [wn]; have e : 0 + ((n : Int)).toNat * 1 = n := by omega
      rw [e]; exact nth_i64 (by omega)
    have wl : IntKind.i64.wrap ((l.length : Int) + 1) = (l.length : Int) + 1 := wrap64 (by omega) (by omega)
    by_cases hin : (n : Int) ∈ l.map (·.1)
    case' pos =>
      have hfn : ¬ fs.getD n 0 = 0 := by
        obtain ⟨p, hp, hpn⟩ := List.mem_map.1 hin
        have h3 := hA p hp
        have e : p.1.toNat = n := by omega
        rw [e] at h3; omega
      repeat' (first
        | ((with_reducible apply Onw.mk); conv => whnf)
        | (with_reducible first | apply Br.tt | apply Br.ff | apply Br.no)
        | ((with_reducible apply Br.t); · assumption)
        | ((with_reducible apply Br.f); · assumption)
        | ((with_reducible apply Br.dt); · exact ab_known)
        | ((with_reducible apply Br.df); · exact ab_known)
        | (with_reducible first | refine Br.dec (fun hc => ?_) (fun hc => ?_) | refine Br.mk (fun hc => ?_) (fun hc => ?_))
        | (refine PreP.mk hrp ?_)
        | (refine EqP.mk hri ?_)
        | (refine PreP.mk hpi ?_)
        | (refine NeedRow.load (row := fs.map i64) rfl rfl hld ?_)
        | (refine NeedRow.store (row := fs.map i64) rfl rfl rfl rfl hof ?_)
        | ((with_reducible first | apply NeedRows.mk | apply NeedMap.mk | apply NeedIter.mk); · exact ab_look)
        | ((with_reducible apply NeedLen.mk); · first | assumption | rfl)
        | ((with_reducible apply NeedRow.mk); · exact ab_lookR)
        | ((with_reducible apply DrawG.mk (List.replicate 60 false)); · decide +kernel)
        | (with_reducible first | refine NewP.mk (fun id hid => ?_) | refine NilP.mk (fun e he => ?_))
        | (with_reducible first | exact trivial | exact And.intro rfl rfl)
        | ((with_reducible apply PreP.mk); · exact ab_asked)
        | refine Exists.intro _ (PreP.mk (bytesOf_lst _) ?_)
        | refine PreP.mk (lenD_lst _) ?_
        | (with_reducible first | refine PreP.mk ?_ ?_ | refine BothP.mk ?_ ?_)
        | ((with_reducible apply AncOr.anc); · decide +kernel)
        | with_reducible refine AncOr.go ?_)
      rw [wn, wi]
      refine CallOK.go (c9old h2 n (i + 1) _ 1 1 (.inl rfl) (by omega) (by omega) (by omega) (by omega) (by omega) (by omega) (by omega) (by omega) hks hin hl0) (fun r2 H3 hr => ?_)
      obtain ⟨m, bs3, ck3, rfl, hm3, h3, hg3⟩ := hr
      have hrow3 := hg3.out id _ hne1 hrow
      have hll : l.length ≤ i + 1 := by omega
      repeat' (first
        | ((with_reducible apply Onw.mk); conv => whnf)
        | (with_reducible first | apply Br.tt | apply Br.ff | apply Br.no)
        | ((with_reducible apply Br.t); · assumption)
        | ((with_reducible apply Br.f); · assumption)
        | ((with_reducible apply Br.dt); · exact ab_known)
        | ((with_reducible apply Br.df); · exact ab_known)
        | (with_reducible first | refine Br.dec (fun hc => ?_) (fun hc => ?_) | refine Br.mk (fun hc => ?_) (fun hc => ?_))
        | ((with_reducible first | apply NeedRows.mk | apply NeedMap.mk | apply NeedIter.mk); · exact ab_look)
        | ((with_reducible apply NeedLen.mk); · first | assumption | rfl)
        | ((with_reducible apply NeedRow.mk); · exact ab_lookR)
        | ((with_reducible apply DrawG.mk (List.replicate 60 false)); · decide +kernel)
        | (with_reducible first | refine NewP.mk (fun id hid => ?_) | refine NilP.mk (fun e he => ?_))
        | (with_reducible first | exact trivial | exact And.intro rfl rfl)
        | ((with_reducible apply PreP.mk); · exact ab_asked)
        | refine Exists.intro _ (PreP.mk (bytesOf_lst _) ?_)
        | refine PreP.mk (lenD_lst _) ?_
        | (with_reducible first | refine PreP.mk ?_ ?_ | refine BothP.mk ?_ ?_)
        | ((with_reducible apply AncOr.anc); · decide +kernel)
        | with_reducible refine AncOr.go ?_)
      refine Run.keep [(0, .p (.lst (b.map byteRow))), (3, .ptr r 0 0), (4, .ptr id 0 0), (5, i64 l.length), (6, i64 i), (8, i64 m), (9, i64 0), (10, i64 (0 : Nat))] ⟨rfl, rfl, rfl, rfl, rfl, rfl, rfl, rfl, trivial⟩ ?_
      obtain ⟨l2, hl2⟩ : ∃ x, x = l := ⟨l, rfl⟩
      subst hl2
      obtain ⟨fs2, hfs2⟩ : ∃ x, x = fs := ⟨fs, rfl⟩
      subst hfs2
    case' neg =>
      have hfn : fs.getD n 0 = 0 := hB n hin
      have hof : 0 + (IntKind.i64.wrap (IntKind.i64.wrap ((c.toNat : Int).tmod 30) + 1)).toNat * 1 < (fs.map i64).length := by
        rw [wn, List.length_map, hfl]; omega
      repeat' (first
        | ((with_reducible apply Onw.mk); conv => whnf)
        | (with_reducible first | apply Br.tt | apply Br.ff | apply Br.no)
        | ((with_reducible apply Br.t); · assumption)
        | ((with_reducible apply Br.f); · assumption)
        | ((with_reducible apply Br.dt); · exact ab_known)
        | ((with_reducible apply Br.df); · exact ab_known)
        | (with_reducible first | refine Br.dec (fun hc => ?_) (fun hc => ?_) | refine Br.mk (fun hc => ?_) (fun hc => ?_))
        | (refine PreP.mk hrp ?_)
        | (refine EqP.mk hri ?_)
        | (refine PreP.mk hpi ?_)
        | (refine NeedRow.load (row := fs.map i64) rfl rfl hld ?_)
        | (refine NeedRow.store (row := fs.map i64) rfl rfl rfl rfl hof ?_)
        | ((with_reducible first | apply NeedRows.mk | apply NeedMap.mk | apply NeedIter.mk); · exact ab_look)
        | ((with_reducible apply NeedLen.mk); · first | assumption | rfl)
        | ((with_reducible apply NeedRow.mk); · exact ab_lookR)
        | ((with_reducible apply DrawG.mk (List.replicate 60 false)); · decide +kernel)
        | (with_reducible first | refine NewP.mk (fun id hid => ?_) | refine NilP.mk (fun e he => ?_))
        | (with_reducible first | exact trivial | exact And.intro rfl rfl)
        | ((with_reducible apply PreP.mk); · exact ab_asked)
        | refine Exists.intro _ (PreP.mk (bytesOf_lst _) ?_)
        | refine PreP.mk (lenD_lst _) ?_
        | (with_reducible first | refine PreP.mk ?_ ?_ | refine BothP.mk ?_ ?_)
        | ((with_reducible apply AncOr.anc); · decide +kernel)
        | with_reducible refine AncOr.go ?_)
      rw [wn, wi]
      refine CallOK.go (c9new (h2.set hne1) n (i + 1) _ 1 1 (.inl rfl) (by omega) (by omega) (by omega) (by omega) (by omega) (by omega) (by omega) (by omega) hks hin hl0) (fun r2 H3 hr => ?_)
      obtain ⟨m, bs3, ck3, rfl, hm3, h3, hg3⟩ := hr
      have hrow3 : nth H3 id = some (.rows [(fs.map i64).set (0 + ((n : Int)).toNat * 1) (i64 ((i : Int) + 1))]) := hg3.out id _ hne1 (nth_setN_same hrow)
      have en : 0 + ((n : Int)).toNat * 1 = n := by omega
      rw [en, set_i64] at hrow3
      have hA2 : ∀ p ∈ l ++ [((n : Int), (i : Int) + 1)], 1 ≤ p.1 ∧ p.1 ≤ 30 ∧ 1 ≤ p.2 ∧ (fs.set n ((i : Int) + 1)).getD p.1.toNat 0 = p.2 := fun p hp => by
        rcases List.mem_append.1 hp with q | q
        · obtain ⟨a1, a2, a3, a4⟩ := hA p q
          refine ⟨a1, a2, a3, ?_⟩
          have hne : n ≠ p.1.toNat := fun e => hin (List.mem_map.2 ⟨p, q, by omega⟩)
          rw [List.getD_eq_getElem?_getD, List.getElem?_set_ne hne, ← List.getD_eq_getElem?_getD]; exact a4
        · simp only [List.mem_singleton] at q
          subst q
          refine ⟨by simp only; omega, by simp only; omega, by simp only; omega, ?_⟩
          have e : ((n : Int)).toNat = n := by omega
          simp only [e]
          rw [List.getD_eq_getElem?_getD, List.getElem?_set_self (by omega)]; rfl
      have hB2 : ∀ j : Nat, (j : Int) ∉ (l ++ [((n : Int), (i : Int) + 1)]).map (·.1) → (fs.set n ((i : Int) + 1)).getD j 0 = 0 := fun j hj => by
        rw [List.map_append, List.mem_append, not_or] at hj
        have hne : n ≠ j := fun e => hj.2 (by simp [e])
        rw [List.getD_eq_getElem?_getD, List.getElem?_set_ne hne, ← List.getD_eq_getElem?_getD]
        exact hB j hj.1
      have hll : (l ++ [((n : Int), (i : Int) + 1)]).length ≤ i + 1 := by simp; omega
      have hfl2 : (fs.set n ((i : Int) + 1)).length = 32 := by rw [List.length_set]; exact hfl
      have hlen2 : (l.length : Int) + 1 = ((l ++ [((n : Int), (i : Int) + 1)]).length : Int) := by simp
      repeat' (first
        | ((with_reducible apply Onw.mk); conv => whnf)
        | (with_reducible first | apply Br.tt | apply Br.ff | apply Br.no)
        | ((with_reducible apply Br.t); · assumption)
        | ((with_reducible apply Br.f); · assumption)
        | ((with_reducible apply Br.dt); · exact ab_known)
        | ((with_reducible apply Br.df); · exact ab_known)
        | (with_reducible first | refine Br.dec (fun hc => ?_) (fun hc => ?_) | refine Br.mk (fun hc => ?_) (fun hc => ?_))
        | ((with_reducible first | apply NeedRows.mk | apply NeedMap.mk | apply NeedIter.mk); · exact ab_look)
        | ((with_reducible apply NeedLen.mk); · first | assumption | rfl)
        | ((with_reducible apply NeedRow.mk); · exact ab_lookR)
        | ((with_reducible apply DrawG.mk (List.replicate 60 false)); · decide +kernel)
        | (with_reducible first | refine NewP.mk (fun id hid => ?_) | refine NilP.mk (fun e he => ?_))
        | (with_reducible first | exact trivial | exact And.intro rfl rfl)
        | ((with_reducible apply PreP.mk); · exact ab_asked)
        | refine Exists.intro _ (PreP.mk (bytesOf_lst _) ?_)
        | refine PreP.mk (lenD_lst _) ?_
        | (with_reducible first | refine PreP.mk ?_ ?_ | refine BothP.mk ?_ ?_)
        | ((with_reducible apply AncOr.anc); · decide +kernel)
        | with_reducible refine AncOr.go ?_)
      refine Run.keep [(0, .p (.lst (b.map byteRow))), (3, .ptr r 0 0), (4, .ptr id 0 0), (5, i64 (l ++ [((n : Int), (i : Int) + 1)]).length), (6, i64 i), (8, i64 m), (9, i64 0), (10, i64 (0 : Nat))] ⟨rfl, rfl, rfl, congrArg (fun x => some (i64 x)) (wl.trans hlen2), rfl, rfl, rfl, rfl, trivial⟩ ?_
      clear hA hB hfl hlen2 wl h2 hks hli hin hfn hrow
      generalize l ++ [((n : Int), (i : Int) + 1)] = l2 at *
      generalize fs.set n ((i : Int) + 1) = fs2 at *
      have hA := hA2
      have hB := hB2
      have hfl := hfl2
    all_goals
      have hkeys : ∀ x : Int, x ∈ l2.map (·.1) → 1 ≤ x ∧ x ≤ 30 ∧ 1 ≤ fs2.getD x.toNat 0 := fun x hx => by
        obtain ⟨p, hp, rfl⟩ := List.mem_map.1 hx
        obtain ⟨a1, a2, a3, a4⟩ := hA p hp
        rw [a4]; exact ⟨a1, a2, a3⟩
      have hm0 := hm3.1
      obtain ⟨mn, rfl⟩ : ∃ mn : Nat, m = mn := ⟨m.toNat, by omega⟩
      have hmn : mn ≤ 30 := by
        rcases Nat.lt_or_ge 0 mn with q | q
        · have := (hkeys mn (hm3.2.1 mn (by omega) (by omega))).2.1; omega
        · omega
      refine Run.rounds (fun (k : Nat) T H4 => T = [(0, .p (.lst (b.map byteRow))), (3, .ptr r 0 0), (4, .ptr id 0 0), (5, i64 l2.length), (6, i64 i), (8, i64 mn), (9, i64 0), (10, i64 k)] ∧ H4 = H3 ∧ k ≤ mn) (fun k => mn - k) ?_ (x := 0) ⟨rfl, rfl, Nat.zero_le _⟩
      rintro k T H4 ⟨rfl, rfl, hkm⟩ ih2
      have wk : IntKind.i64.wrap ((k : Int) + 1) = (k + 1 : Nat) := by rw [wrap64 (by omega) (by omega)]; omega
      have hpi : (0 : Int) ≤ IntKind.i64.wrap ((k : Int) + 1) ∧ IntKind.i64.wrap ((k : Int) + 1) < 32 := by rw [wk]; omega
      have hld : nth (fs2.map i64) (0 + (IntKind.i64.wrap ((k : Int) + 1)).toNat * 1) = some (i64 (fs2.getD (k + 1) 0)) := by
        rw [wk]; have e : 0 + (((k + 1 : Nat) : Int)).toNat * 1 = k + 1 := by omega
        rw [e]; exact nth_i64 (by omega)
      refine Run.walk hm Try.func4 100 ?_
      rcases Nat.lt_or_ge k mn with hk2 | hk2
      · have hgt : 0 < fs2.getD (k + 1) 0 := by
          have := (hkeys ((k + 1 : Nat) : Int) (hm3.2.1 _ (by omega) (by omega))).2.2
          have e : (((k + 1 : Nat) : Int)).toNat = k + 1 := by omega
          rw [e] at this; omega
        repeat' (first
          | ((with_reducible apply Onw.mk); conv => whnf)
          | (with_reducible first | apply Br.tt | apply Br.ff | apply Br.no)
          | ((with_reducible apply Br.t); · assumption)
          | ((with_reducible apply Br.f); · assumption)
          | ((with_reducible apply Br.dt); · exact ab_known)
          | ((with_reducible apply Br.df); · exact ab_known)
          | (with_reducible first | refine Br.dec (fun hc => ?_) (fun hc => ?_) | refine Br.mk (fun hc => ?_) (fun hc => ?_))
          | (refine PreP.mk hpi ?_)
          | (refine NeedRow.load (row := fs2.map i64) rfl rfl hld ?_)
          | ((with_reducible first | apply NeedRows.mk | apply NeedMap.mk | apply NeedIter.mk); · exact ab_look)
          | ((with_reducible apply NeedLen.mk); · first | assumption | rfl)
          | ((with_reducible apply NeedRow.mk); · exact ab_lookR)
          | ((with_reducible apply DrawG.mk (List.replicate 60 false)); · decide +kernel)
          | (with_reducible first | refine NewP.mk (fun id hid => ?_) | refine NilP.mk (fun e he => ?_))
          | (with_reducible first | exact trivial | exact And.intro rfl rfl)
          | ((with_reducible apply PreP.mk); · exact ab_asked)
          | refine Exists.intro _ (PreP.mk (bytesOf_lst _) ?_)
          | refine PreP.mk (lenD_lst _) ?_
          | (with_reducible first | refine PreP.mk ?_ ?_ | refine BothP.mk ?_ ?_)
          | ((with_reducible apply AncOr.anc); · decide +kernel)
          | with_reducible refine AncOr.go ?_)
        refine Run.keep _ ?_ (ih2 (k + 1) _ _ (by omega) ⟨rfl, rfl, by omega⟩)
        exact ⟨rfl, rfl, rfl, rfl, rfl, rfl, rfl, congrArg (fun x => some (i64 x)) wk, trivial⟩
      · have hz : fs2.getD (k + 1) 0 = 0 := hB (k + 1) (by
          have := hm3.2.2
          have e : ((k + 1 : Nat) : Int) = (mn : Int) + 1 := by omega
          rw [e]; exact this)
        have hgt : ¬ 0 < fs2.getD (k + 1) 0 := by rw [hz]; omega
        obtain rfl : k = mn := by omega
        repeat' (first
          | ((with_reducible apply Onw.mk); conv => whnf)
          | (with_reducible first | apply Br.tt | apply Br.ff | apply Br.no)
          | ((with_reducible apply Br.t); · assumption)
          | ((with_reducible apply Br.f); · assumption)
          | ((with_reducible apply Br.dt); · exact ab_known)
          | ((with_reducible apply Br.df); · exact ab_known)
          | (with_reducible first | refine Br.dec (fun hc => ?_) (fun hc => ?_) | refine Br.mk (fun hc => ?_) (fun hc => ?_))
          | (refine PreP.mk hpi ?_)
          | (refine NeedRow.load (row := fs2.map i64) rfl rfl hld ?_)
          | ((with_reducible first | apply NeedRows.mk | apply NeedMap.mk | apply NeedIter.mk); · exact ab_look)
          | ((with_reducible apply NeedLen.mk); · first | assumption | rfl)
          | ((with_reducible apply NeedRow.mk); · exact ab_lookR)
          | ((with_reducible apply DrawG.mk (List.replicate 60 false)); · decide +kernel)
          | (with_reducible first | refine NewP.mk (fun id hid => ?_) | refine NilP.mk (fun e he => ?_))
          | (with_reducible first | exact trivial | exact And.intro rfl rfl)
          | ((with_reducible apply PreP.mk); · exact ab_asked)
          | refine Exists.intro _ (PreP.mk (bytesOf_lst _) ?_)
          | refine PreP.mk (lenD_lst _) ?_
          | (with_reducible first | refine PreP.mk ?_ ?_ | refine BothP.mk ?_ ?_)
          | ((with_reducible apply AncOr.anc); · decide +kernel)
          | with_reducible refine AncOr.go ?_)
        have hks2 : ∀ j ∈ l2.map (·.1), j ≤ 1000 := fun j hj => by have := (hkeys j hj).2.1; omega
        have hks3 : ∀ j ∈ l2.map (·.1), 0 ≤ j ∧ j ≤ 1000 := fun j hj => by have := hkeys j hj; omega
        refine CallOK.go (c11 h3 (by omega) (by omega) hks2) (fun r2 H5 hr => ?_)
        obtain ⟨⟨m5, rfl, hm5⟩, he5⟩ := hr
        rw [he5]; clear he5 H5
        obtain rfl : m5 = k := hm5.eq hm3
        repeat' (first
          | ((with_reducible apply Onw.mk); conv => whnf)
          | (with_reducible first | apply Br.tt | apply Br.ff | apply Br.no)
          | ((with_reducible apply Br.t); · assumption)
          | ((with_reducible apply Br.f); · assumption)
          | ((with_reducible apply Br.dt); · exact ab_known)
          | ((with_reducible apply Br.df); · exact ab_known)
          | (with_reducible first | refine Br.dec (fun hc => ?_) (fun hc => ?_) | refine Br.mk (fun hc => ?_) (fun hc => ?_))
          | ((with_reducible first | apply NeedRows.mk | apply NeedMap.mk | apply NeedIter.mk); · exact ab_look)
          | ((with_reducible apply NeedLen.mk); · first | assumption | rfl)
          | ((with_reducible apply NeedRow.mk); · exact ab_lookR)
          | ((with_reducible apply DrawG.mk (List.replicate 60 false)); · decide +kernel)
          | (with_reducible first | refine NewP.mk (fun id hid => ?_) | refine NilP.mk (fun e he => ?_))
          | (with_reducible first | exact trivial | exact And.intro rfl rfl)
          | ((with_reducible apply PreP.mk); · exact ab_asked)
          | refine Exists.intro _ (PreP.mk (bytesOf_lst _) ?_)
          | refine PreP.mk (lenD_lst _) ?_
          | (with_reducible first | refine PreP.mk ?_ ?_ | refine BothP.mk ?_ ?_)
          | ((with_reducible apply AncOr.anc); · decide +kernel)
          | with_reducible refine AncOr.go ?_)
        refine CallOK.go (c14 _ r mid _ _ _ _ h3 hks3 (by omega)) (fun r2 H5 hr => ?_)
        obtain ⟨he5, ps, rfl, hps⟩ := hr
        rw [he5]; clear he5 H5
        have hps2 : ¬ ¬ (ps.length : Int) = (l2.length : Int) := by rw [hps]; simp
        repeat' (first
          | ((with_reducible apply Onw.mk); conv => whnf)
          | (with_reducible first | apply Br.tt | apply Br.ff | apply Br.no)
          | ((with_reducible apply Br.t); · assumption)
          | ((with_reducible apply Br.f); · assumption)
          | ((with_reducible apply Br.dt); · exact ab_known)
          | ((with_reducible apply Br.df); · exact ab_known)
          | (with_reducible first | refine Br.dec (fun hc => ?_) (fun hc => ?_) | refine Br.mk (fun hc => ?_) (fun hc => ?_))
          | ((with_reducible first | apply NeedRows.mk | apply NeedMap.mk | apply NeedIter.mk); · exact ab_look)
          | ((with_reducible apply NeedLen.mk); · first | assumption | rfl)
          | ((with_reducible apply NeedRow.mk); · exact ab_lookR)
          | ((with_reducible apply DrawG.mk (List.replicate 60 false)); · decide +kernel)
          | (with_reducible first | refine NewP.mk (fun id hid => ?_) | refine NilP.mk (fun e he => ?_))
          | (with_reducible first | exact trivial | exact And.intro rfl rfl)
          | ((with_reducible apply PreP.mk); · exact ab_asked)
          | refine Exists.intro _ (PreP.mk (bytesOf_lst _) ?_)
          | refine PreP.mk (lenD_lst _) ?_
          | (with_reducible first | refine PreP.mk ?_ ?_ | refine BothP.mk ?_ ?_)
          | ((with_reducible apply AncOr.anc); · decide +kernel)
          | with_reducible refine AncOr.go ?_)
        all_goals first
          | (refine Run.keep _ ?_ (ih (i + 1) _ _ (by omega) ⟨fs2, l2, bs3, ck3, 1, rfl, by omega, hll, h3, .inr rfl, hrow3, hfl, hA, hB⟩)
             exact ⟨rfl, rfl, rfl, rfl, congrArg (fun x => some (i64 x)) wi, trivial⟩)
          | (exfalso; omega)
          | (clear ih ih2; trace_state; sorry)
  · have hc1 : ¬ (i : Int) < ((b.map byteRow).length : Int) := by rw [hbl]; omega
    have hkeys : ∀ x : Int, x ∈ l.map (·.1) → 1 ≤ x ∧ x ≤ 30 := fun x hx => by
      obtain ⟨p, hp, rfl⟩ := List.mem_map.1 hx
      obtain ⟨a1, a2, a3, a4⟩ := hA p hp
      exact ⟨a1, a2⟩
    clear ih
    repeat' (first
      | ((with_reducible apply Onw.mk); conv => whnf)
      | (with_reducible first | apply Br.tt | apply Br.ff | apply Br.no)
      | ((with_reducible apply Br.t); · assumption)
      | ((with_reducible apply Br.f); · assumption)
      | ((with_reducible apply Br.dt); · exact ab_known)
      | ((with_reducible apply Br.df); · exact ab_known)
      | (with_reducible first | refine Br.dec (fun hc => ?_) (fun hc => ?_) | refine Br.mk (fun hc => ?_) (fun hc => ?_))
      | ((with_reducible first | apply NeedRows.mk | apply NeedMap.mk | apply NeedIter.mk); · exact ab_look)
      | ((with_reducible apply NeedLen.mk); · first | assumption | rfl)
      | ((with_reducible apply NeedRow.mk); · exact ab_lookR)
      | ((with_reducible apply DrawG.mk (List.replicate 60 false)); · decide +kernel)
      | (with_reducible first | refine NewP.mk (fun id hid => ?_) | refine NilP.mk (fun e he => ?_))
      | (with_reducible first | exact trivial | exact And.intro rfl rfl)
      | ((with_reducible apply PreP.mk); · exact ab_asked)
      | refine Exists.intro _ (PreP.mk (bytesOf_lst _) ?_)
      | refine PreP.mk (lenD_lst _) ?_
      | (with_reducible first | refine PreP.mk ?_ ?_ | refine BothP.mk ?_ ?_)
      | ((with_reducible apply AncOr.anc); · decide +kernel)
      | with_reducible refine AncOr.go ?_)
    refine Run.keep [(3, .ptr r 0 0), (4, .ptr id 0 0), (11, i64 (1 : Nat))] ⟨rfl, rfl, rfl, trivial⟩ ?_
    refine Run.rounds (fun (n : Nat) T H4 => T = [(3, .ptr r 0 0), (4, .ptr id 0 0), (11, i64 n)] ∧ RcAt H4 r mid low0 l bs ck ∧ nth H4 id = some (.rows [fs.map i64]) ∧ 1 ≤ n ∧ n ≤ 31) (fun n => 31 - n) ?_ (x := 1) ⟨rfl, h2, hrow, Nat.le_refl _, by omega⟩
    rintro n T H4 ⟨rfl, h4, hrow4, hn1, hn2⟩ ih
    have wn : IntKind.i64.wrap ((n : Int) + 1) = (n + 1 : Nat) := by rw [wrap64 (by omega) (by omega)]; omega
    have hltr := nth_lt h4.row
    have hltm := nth_lt h4.map
    have hlti := nth_lt hrow4
    refine Run.walk hm Try.func4 100 ?_
    rcases Nat.lt_or_ge n 31 with hn3 | hn3
    · have hc2 : (n : Int) < 31 := by omega
      have hpi : (0 : Int) ≤ (n : Int) ∧ (n : Int) < 32 := by omega
      have hld : nth (fs.map i64) (0 + ((n : Int)).toNat * 1) = some (i64 (fs.getD n 0)) := by
        have e : 0 + ((n : Int)).toNat * 1 = n := by omega
        rw [e]; exact nth_i64 (by omega)
      by_cases hin : (n : Int) ∈ l.map (·.1)
      · repeat' (first
        | ((with_reducible apply Onw.mk); conv => whnf)
        | (with_reducible first | apply Br.tt | apply Br.ff | apply Br.no)
        | ((with_reducible apply Br.t); · assumption)
        | ((with_reducible apply Br.f); · assumption)
        | ((with_reducible apply Br.dt); · exact ab_known)
        | ((with_reducible apply Br.df); · exact ab_known)
        | (with_reducible first | refine Br.dec (fun hc => ?_) (fun hc => ?_) | refine Br.mk (fun hc => ?_) (fun hc => ?_))
        | ((with_reducible first | apply NeedRows.mk | apply NeedMap.mk | apply NeedIter.mk); · exact ab_look)
        | ((with_reducible apply NeedLen.mk); · first | assumption | rfl)
        | ((with_reducible apply NeedRow.mk); · exact ab_lookR)
        | ((with_reducible apply DrawG.mk (List.replicate 60 false)); · decide +kernel)
        | (with_reducible first | refine NewP.mk (fun id hid => ?_) | refine NilP.mk (fun e he => ?_))
        | (with_reducible first | exact trivial | exact And.intro rfl rfl)
        | ((with_reducible apply PreP.mk); · exact ab_asked)
        | refine Exists.intro _ (PreP.mk (bytesOf_lst _) ?_)
        | refine PreP.mk (lenD_lst _) ?_
        | (with_reducible first | refine PreP.mk ?_ ?_ | refine BothP.mk ?_ ?_)
        | ((with_reducible apply AncOr.anc); · decide +kernel)
        | with_reducible refine AncOr.go ?_)
        refine CallOK.go (c15in h4 hin) (fun r2 H5 hr => ?_)
        obtain ⟨⟨t5, ht5, rfl⟩, he5⟩ := hr
        rw [he5]; clear he5 H5
        obtain ⟨a1, a2, a3, a4⟩ := hA _ ht5
        simp only at a1 a2 a3 a4
        have e : ((n : Int)).toNat = n := by omega
        rw [e] at a4
        have hgt : 0 < fs.getD n 0 := by omega
        have hgt2 : decide (0 < fs.getD n 0) = true := decide_eq_true hgt
        repeat' (first
          | ((with_reducible apply Onw.mk); conv => whnf)
          | (with_reducible first | apply Br.tt | apply Br.ff | apply Br.no)
          | ((with_reducible apply Br.t); · assumption)
          | ((with_reducible apply Br.f); · assumption)
          | ((with_reducible apply Br.dt); · exact ab_known)
          | ((with_reducible apply Br.df); · exact ab_known)
          | (with_reducible first | refine Br.dec (fun hc => ?_) (fun hc => ?_) | refine Br.mk (fun hc => ?_) (fun hc => ?_))
          | (refine PreP.mk hpi ?_)
          | (refine NeedRow.load (row := fs.map i64) rfl rfl hld ?_)
          | ((with_reducible first | apply NeedRows.mk | apply NeedMap.mk | apply NeedIter.mk); · exact ab_look)
          | ((with_reducible apply NeedLen.mk); · first | assumption | rfl)
          | ((with_reducible apply NeedRow.mk); · exact ab_lookR)
          | ((with_reducible apply DrawG.mk (List.replicate 60 false)); · decide +kernel)
          | (with_reducible first | refine NewP.mk (fun id hid => ?_) | refine NilP.mk (fun e he => ?_))
          | (with_reducible first | exact trivial | exact And.intro rfl rfl)
          | ((with_reducible apply PreP.mk); · exact ab_asked)
          | refine Exists.intro _ (PreP.mk (bytesOf_lst _) ?_)
          | refine PreP.mk (lenD_lst _) ?_
          | (with_reducible first | refine PreP.mk ?_ ?_ | refine BothP.mk ?_ ?_)
          | ((with_reducible apply AncOr.anc); · decide +kernel)
          | with_reducible refine AncOr.go ?_)
        all_goals first
          | (refine Run.keep _ ?_ (ih (n + 1) _ _ (by omega) ⟨rfl, h4.keep (nth_new_set hid), nth_new_set hid _ _ hlti hrow4, by omega, by omega⟩)
             exact ⟨rfl, rfl, congrArg (fun x => some (i64 x)) wn, trivial⟩)
          | (exfalso; simp_all; done)
          | (exfalso; omega)
      · repeat' (first
        | ((with_reducible apply Onw.mk); conv => whnf)
        | (with_reducible first | apply Br.tt | apply Br.ff | apply Br.no)
        | ((with_reducible apply Br.t); · assumption)
        | ((with_reducible apply Br.f); · assumption)
        | ((with_reducible apply Br.dt); · exact ab_known)
        | ((with_reducible apply Br.df); · exact ab_known)
        | (with_reducible first | refine Br.dec (fun hc => ?_) (fun hc => ?_) | refine Br.mk (fun hc => ?_) (fun hc => ?_))
        | ((with_reducible first | apply NeedRows.mk | apply NeedMap.mk | apply NeedIter.mk); · exact ab_look)
        | ((with_reducible apply NeedLen.mk); · first | assumption | rfl)
        | ((with_reducible apply NeedRow.mk); · exact ab_lookR)
        | ((with_reducible apply DrawG.mk (List.replicate 60 false)); · decide +kernel)
        | (with_reducible first | refine NewP.mk (fun id hid => ?_) | refine NilP.mk (fun e he => ?_))
        | (with_reducible first | exact trivial | exact And.intro rfl rfl)
        | ((with_reducible apply PreP.mk); · exact ab_asked)
        | refine Exists.intro _ (PreP.mk (bytesOf_lst _) ?_)
        | refine PreP.mk (lenD_lst _) ?_
        | (with_reducible first | refine PreP.mk ?_ ?_ | refine BothP.mk ?_ ?_)
        | ((with_reducible apply AncOr.anc); · decide +kernel)
        | with_reducible refine AncOr.go ?_)
        refine CallOK.go (c15out h4 hin) (fun r2 H5 hr => ?_)
        obtain ⟨rfl, he5⟩ := hr
        rw [he5]; clear he5 H5
        have hz : fs.getD n 0 = 0 := hB n hin
        have hgt : ¬ 0 < fs.getD n 0 := by omega
        repeat' (first
          | ((with_reducible apply Onw.mk); conv => whnf)
          | (with_reducible first | apply Br.tt | apply Br.ff | apply Br.no)
          | ((with_reducible apply Br.t); · assumption)
          | ((with_reducible apply Br.f); · assumption)
          | ((with_reducible apply Br.dt); · exact ab_known)
          | ((with_reducible apply Br.df); · exact ab_known)
          | (with_reducible first | refine Br.dec (fun hc => ?_) (fun hc => ?_) | refine Br.mk (fun hc => ?_) (fun hc => ?_))
          | (refine PreP.mk hpi ?_)
          | (refine NeedRow.load (row := fs.map i64) rfl rfl hld ?_)
          | ((with_reducible first | apply NeedRows.mk | apply NeedMap.mk | apply NeedIter.mk); · exact ab_look)
          | ((with_reducible apply NeedLen.mk); · first | assumption | rfl)
          | ((with_reducible apply NeedRow.mk); · exact ab_lookR)
          | ((with_reducible apply DrawG.mk (List.replicate 60 false)); · decide +kernel)
          | (with_reducible first | refine NewP.mk (fun id hid => ?_) | refine NilP.mk (fun e he => ?_))
          | (with_reducible first | exact trivial | exact And.intro rfl rfl)
          | ((with_reducible apply PreP.mk); · exact ab_asked)
          | refine Exists.intro _ (PreP.mk (bytesOf_lst _) ?_)
          | refine PreP.mk (lenD_lst _) ?_
          | (with_reducible first | refine PreP.mk ?_ ?_ | refine BothP.mk ?_ ?_)
          | ((with_reducible apply AncOr.anc); · decide +kernel)
          | with_reducible refine AncOr.go ?_)
        all_goals first
          | (refine Run.keep _ ?_ (ih (n + 1) _ _ (by omega) ⟨rfl, h4.keep (nth_new_set hid), nth_new_set hid _ _ hlti hrow4, by omega, by omega⟩)
             exact ⟨rfl, rfl, congrArg (fun x => some (i64 x)) wn, trivial⟩)
          | (exfalso; simp_all; done)
          | (exfalso; omega)
    · have hc2 : ¬ (n : Int) < 31 := by omega
      repeat' (first
        | ((with_reducible apply Onw.mk); conv => whnf)
        | (with_reducible first | apply Br.tt | apply Br.ff | apply Br.no)
        | ((with_reducible apply Br.t); · assumption)
        | ((with_reducible apply Br.f); · assumption)
        | ((with_reducible apply Br.dt); · exact ab_known)
        | ((with_reducible apply Br.df); · exact ab_known)
        | (with_reducible first | refine Br.dec (fun hc => ?_) (fun hc => ?_) | refine Br.mk (fun hc => ?_) (fun hc => ?_))
        | ((with_reducible first | apply NeedRows.mk | apply NeedMap.mk | apply NeedIter.mk); · exact ab_look)
        | ((with_reducible apply NeedLen.mk); · first | assumption | rfl)
        | ((with_reducible apply NeedRow.mk); · exact ab_lookR)
        | ((with_reducible apply DrawG.mk (List.replicate 60 false)); · decide +kernel)
        | (with_reducible first | refine NewP.mk (fun id hid => ?_) | refine NilP.mk (fun e he => ?_))
        | (with_reducible first | exact trivial | exact And.intro rfl rfl)
        | ((with_reducible apply PreP.mk); · exact ab_asked)
        | refine Exists.intro _ (PreP.mk (bytesOf_lst _) ?_)
        | refine PreP.mk (lenD_lst _) ?_
        | (with_reducible first | refine PreP.mk ?_ ?_ | refine BothP.mk ?_ ?_)
        | ((with_reducible apply AncOr.anc); · decide +kernel)
        | with_reducible refine AncOr.go ?_)
      rfl
end Go.Proofs.Ytjlhkbikconboaa
