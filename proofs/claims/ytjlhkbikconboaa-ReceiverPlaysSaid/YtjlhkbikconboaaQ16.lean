/- What functions of the receiver, of labels, rows, batches, and of the laws over them, do. Conditions: those that each theorem names. -/
import Derived.Test.YtjlhkbikconboaaQ15
import Derived.Test.YtjlhkbikconboaaR5
set_option linter.unusedVariables false
set_option linter.unusedSimpArgs false
namespace Go.Proofs.Ytjlhkbikconboaa
open Go.Ab
set_option maxRecDepth 100000
set_option maxHeartbeats 1000000
attribute [local irreducible] Run CallOK DetCall Br PreP BothP AncOr Onw NeedRows NeedMap NeedRow NeedLen NilP NeedIter RoundP EntryP EqP OptP NewP NewSlice NewMade AppTo DrawG anc drawB
theorem c15gin {H : Heap} {r mid : Nat} {low : Int} {l : List Bt} {bs : List Nat} {ck : Nat} (h : RcG H r mid low l bs ck) {n : Int} (hin : n ∈ l.map (·.seq)) :
    CallOK Try.prog 15 [.ptr r 0 0, i64 n] H (fun res H' => (∃ b ∈ l, b.seq = n ∧ res = .tup [.p (btP b), boolD true]) ∧ H' = H) := by
  refine (CallOK.trim (Q := fun res => ∃ b ∈ l, b.seq = n ∧ res = .tup [.p (btP b), boolD true]) ((CallOK.of_spec (R := fun res H' => (∃ b ∈ l, b.seq = n ∧ res = .tup [.p (btP b), boolD true]) ∧ ∃ x, H' = H ++ x) ?_).mono (fun _ _ hr => ⟨hr.2, by obtain ⟨⟨b, _, _, rfl⟩, _⟩ := hr; rfl, hr.1⟩))).mono (fun _ _ hr => ⟨hr.2.2, hr.1⟩)
  have hr1 := h.row
  have hr2 := h.map
  have hlt1 := nth_lt hr1
  have hlt2 := nth_lt hr2
  have hpk : ∀ n : Int, keysOk (.int .i64) (l.map entB) ∧ keyOk (.int .i64) (.int .i64 n) = true := fun n => ⟨keysOk_entB l, rfl⟩
  obtain ⟨b, hb, hbs, hlk⟩ := lookB_in hin
  refine Ab.Spec.walk hm Try.func15 (by kernel_rfl) 100 ?_
  repeat' (first
    | ((with_reducible apply Onw.mk); conv => whnf)
    | (with_reducible first | apply Br.tt | apply Br.ff | apply Br.no)
    | ((with_reducible apply Br.t); · assumption)
    | ((with_reducible apply Br.f); · assumption)
    | ((with_reducible apply Br.dt); · exact ab_known)
    | ((with_reducible apply Br.df); · exact ab_known)
    | (with_reducible first | refine Br.dec (fun hc => ?_) (fun hc => ?_) | refine Br.mk (fun hc => ?_) (fun hc => ?_))
    | (refine PreP.mk (hpk _) ?_)
    | (refine OptP.some hlk ?_)
    | ((with_reducible first | apply NeedRows.mk | apply NeedMap.mk | apply NeedIter.mk); · exact ab_look)
    | ((with_reducible apply NeedLen.mk); · first | assumption | rfl)
    | ((with_reducible apply NeedRow.mk); · exact ab_lookR)
    | ((with_reducible apply DrawG.mk (List.replicate 60 false)); · decide +kernel)
    | (with_reducible first | refine NewP.mk (fun id hid => ?_) | refine NilP.mk (fun e he => ?_))
    | (with_reducible first | exact trivial | exact And.intro rfl rfl)
    | ((with_reducible apply PreP.mk); · exact ab_asked)
    | refine Exists.intro _ (PreP.mk (bytesOf_lst _) ?_)
    | refine PreP.mk (lenD_lst _) ?_
    | (with_reducible first | refine PreP.mk ?_ ?_ | refine BothP.mk ?_ ?_)
    | ((with_reducible apply AncOr.anc); · decide +kernel)
    | with_reducible refine AncOr.go ?_)
  rename_i id0 hid0
  refine CallOK.go (c20g _ b (h.good b hb)) (fun r2 H2 hr => ?_)
  obtain ⟨rfl, rfl⟩ := hr
  have hne : id ≠ id0 := by rw [hid, hid0, List.length_append]; simp
  repeat' (first
    | ((with_reducible apply Onw.mk); conv => whnf)
    | (with_reducible first | apply Br.tt | apply Br.ff | apply Br.no)
    | ((with_reducible apply Br.t); · assumption)
    | ((with_reducible apply Br.f); · assumption)
    | ((with_reducible apply Br.dt); · exact ab_known)
    | ((with_reducible apply Br.df); · exact ab_known)
    | (with_reducible first | refine Br.dec (fun hc => ?_) (fun hc => ?_) | refine Br.mk (fun hc => ?_) (fun hc => ?_))
    | ((with_reducible first | apply NeedRows.mk | apply NeedMap.mk | apply NeedIter.mk); · exact ab_look)
    | ((with_reducible apply NeedLen.mk); · first | assumption | rfl)
    | ((with_reducible apply NeedRow.mk); · exact ab_lookR)
    | ((with_reducible apply DrawG.mk (List.replicate 60 false)); · decide +kernel)
    | (with_reducible first | refine NewP.mk (fun id hid => ?_) | refine NilP.mk (fun e he => ?_))
    | (with_reducible first | exact trivial | exact And.intro rfl rfl)
    | ((with_reducible apply PreP.mk); · exact ab_asked)
    | refine Exists.intro _ (PreP.mk (bytesOf_lst _) ?_)
    | refine PreP.mk (lenD_lst _) ?_
    | (with_reducible first | refine PreP.mk ?_ ?_ | refine BothP.mk ?_ ?_)
    | ((with_reducible apply AncOr.anc); · decide +kernel)
    | with_reducible refine AncOr.go ?_)
  refine ⟨⟨b, hb, hbs, rfl⟩, prefix_of (fun j o hj => ?_)⟩
  have hlt := nth_lt hj
  rw [List.length_append] at hid
  exact nth_setN_ne (by omega) (nth_setN_ne (by simp at hid; omega) (nth_app (nth_app hj)))
theorem c15gout {H : Heap} {r mid : Nat} {low : Int} {l : List Bt} {bs : List Nat} {ck : Nat} (h : RcG H r mid low l bs ck) {n : Int} (hin : n ∉ l.map (·.seq)) :
    CallOK Try.prog 15 [.ptr r 0 0, i64 n] H (fun res H' => res = .tup [.p (batG 0 0 [] (.lst [])), boolD false] ∧ H' = H) := by
  refine (CallOK.trim (Q := fun res => res = .tup [.p (batG 0 0 [] (.lst [])), boolD false]) ((CallOK.of_spec (R := fun res H' => res = .tup [.p (batG 0 0 [] (.lst [])), boolD false] ∧ ∃ x, H' = H ++ x) ?_).mono (fun _ _ hr => ⟨hr.2, by rw [hr.1]; rfl, hr.1⟩))).mono (fun _ _ hr => ⟨hr.2.2, hr.1⟩)
  have hr1 := h.row
  have hr2 := h.map
  have hlt1 := nth_lt hr1
  have hlt2 := nth_lt hr2
  have hpk : ∀ n : Int, keysOk (.int .i64) (l.map entB) ∧ keyOk (.int .i64) (.int .i64 n) = true := fun n => ⟨keysOk_entB l, rfl⟩
  have hlk := lookB_out hin
  refine Ab.Spec.walk hm Try.func15 (by kernel_rfl) 100 ?_
  repeat' (first
    | ((with_reducible apply Onw.mk); conv => whnf)
    | (with_reducible first | apply Br.tt | apply Br.ff | apply Br.no)
    | ((with_reducible apply Br.t); · assumption)
    | ((with_reducible apply Br.f); · assumption)
    | ((with_reducible apply Br.dt); · exact ab_known)
    | ((with_reducible apply Br.df); · exact ab_known)
    | (with_reducible first | refine Br.dec (fun hc => ?_) (fun hc => ?_) | refine Br.mk (fun hc => ?_) (fun hc => ?_))
    | (refine PreP.mk (hpk _) ?_)
    | (refine OptP.none hlk ?_)
    | ((with_reducible first | apply NeedRows.mk | apply NeedMap.mk | apply NeedIter.mk); · exact ab_look)
    | ((with_reducible apply NeedLen.mk); · first | assumption | rfl)
    | ((with_reducible apply NeedRow.mk); · exact ab_lookR)
    | ((with_reducible apply DrawG.mk (List.replicate 60 false)); · decide +kernel)
    | (with_reducible first | refine NewP.mk (fun id hid => ?_) | refine NilP.mk (fun e he => ?_))
    | (with_reducible first | exact trivial | exact And.intro rfl rfl)
    | ((with_reducible apply PreP.mk); · exact ab_asked)
    | refine Exists.intro _ (PreP.mk (bytesOf_lst _) ?_)
    | refine PreP.mk (lenD_lst _) ?_
    | (with_reducible first | refine PreP.mk ?_ ?_ | refine BothP.mk ?_ ?_)
    | ((with_reducible apply AncOr.anc); · decide +kernel)
    | with_reducible refine AncOr.go ?_)
  rename_i id0 hid0
  refine CallOK.go (c20 _ 0 0 [] _ (.inl rfl)) (fun r2 H2 hr => ?_)
  obtain ⟨rfl, rfl⟩ := hr
  have hne : id ≠ id0 := by rw [hid, hid0, List.length_append]; simp
  repeat' (first
    | ((with_reducible apply Onw.mk); conv => whnf)
    | (with_reducible first | apply Br.tt | apply Br.ff | apply Br.no)
    | ((with_reducible apply Br.t); · assumption)
    | ((with_reducible apply Br.f); · assumption)
    | ((with_reducible apply Br.dt); · exact ab_known)
    | ((with_reducible apply Br.df); · exact ab_known)
    | (with_reducible first | refine Br.dec (fun hc => ?_) (fun hc => ?_) | refine Br.mk (fun hc => ?_) (fun hc => ?_))
    | ((with_reducible first | apply NeedRows.mk | apply NeedMap.mk | apply NeedIter.mk); · exact ab_look)
    | ((with_reducible apply NeedLen.mk); · first | assumption | rfl)
    | ((with_reducible apply NeedRow.mk); · exact ab_lookR)
    | ((with_reducible apply DrawG.mk (List.replicate 60 false)); · decide +kernel)
    | (with_reducible first | refine NewP.mk (fun id hid => ?_) | refine NilP.mk (fun e he => ?_))
    | (with_reducible first | exact trivial | exact And.intro rfl rfl)
    | ((with_reducible apply PreP.mk); · exact ab_asked)
    | refine Exists.intro _ (PreP.mk (bytesOf_lst _) ?_)
    | refine PreP.mk (lenD_lst _) ?_
    | (with_reducible first | refine PreP.mk ?_ ?_ | refine BothP.mk ?_ ?_)
    | ((with_reducible apply AncOr.anc); · decide +kernel)
    | with_reducible refine AncOr.go ?_)
  refine ⟨rfl, prefix_of (fun j o hj => ?_)⟩
  have hlt := nth_lt hj
  rw [List.length_append] at hid
  exact nth_setN_ne (by omega) (nth_setN_ne (by simp at hid; omega) (nth_app (nth_app hj)))
theorem c21g {H : Heap} {r mid : Nat} {low : Int} {l : List Bt} {bs : List Nat} {ck : Nat} (h : RcG H r mid low l bs ck) (hn : l.length ≤ 1000000) :
    CallOK Try.prog 21 [.fn (.func 39) [] [.box mid]] H (fun r H' => r = .p (.lst (((l.map (·.seq)).mergeSort leI).map intRowZ)) ∧ H' = H) :=
  CallOK.sortedKeysI (k := 3) (ρk := Try.keys22_ren) (ρs := Try.sorted21_ren) (ρm := Try.sort38_ren) { Try.keys22 with } Try.sorted21 Try.sort38 Try.underlying3 (Maps.int_keyed Try.underlying3) rfl rfl rfl rfl rfl
    (Enters.mk Try.func21 rfl (by kernel_rfl)) (Enters.mk Try.func38 rfl (by kernel_rfl)) (Enters.mk Try.func39 rfl (by kernel_rfl)) (l := l) (n := fun f => f.seq) (v := fun f => .p (btP f)) h.map h.keys
    (fun f hf => by have := h.pos f hf; simp [Lit.wf, IntKind.min, IntKind.max, IntKind.bits, IntKind.signed]; omega) h.ok.nodup h.ok.lt hn
def batRow (b : Bt) : List P := [.int .i64 b.seq, .int .i64 b.t, .str b.g, .lst (b.rows.map rowRow)]
/-- All batches, by their numbers. -/
def allB (l : List Bt) : List Bt := ((l.map (·.seq)).mergeSort leI).filterMap fun n => l.find? fun b => decide (n = b.seq)
theorem all_get {l : List Bt} {i : Nat} {n : Int} (hn : ((l.map (·.seq)).mergeSort leI)[i]? = some n) : ∃ b ∈ l, b.seq = n ∧ l.find? (fun b => decide (n = b.seq)) = some b := by
  have hm : n ∈ l.map (·.seq) := by simpa using List.mem_of_getElem? hn
  obtain ⟨f, hf, e⟩ := List.mem_map.1 hm
  cases hq : l.find? (fun b => decide (n = b.seq)) with
  | none =>
    have := List.find?_eq_none.1 hq f hf
    simp [e] at this
  | some b =>
    have h1 := List.find?_some hq
    simp only [decide_eq_true_eq] at h1
    exact ⟨b, List.mem_of_find?_eq_some hq, h1.symm, rfl⟩
theorem all_mem {l : List Bt} {b : Bt} (h : b ∈ allB l) : b ∈ l := by
  unfold allB at h
  obtain ⟨n, _, hn⟩ := List.mem_filterMap.1 h
  exact List.mem_of_find?_eq_some hn
/-- A prefix of the numbers tells a prefix of the batches. -/
theorem all_step {l : List Bt} (ks : List Int) (i : Nat) {n : Int} {b : Bt} (h : ks[i]? = some n) (hb : l.find? (fun b => decide (n = b.seq)) = some b) :
    (ks.take (i + 1)).filterMap (fun n => l.find? fun b => decide (n = b.seq)) = (ks.take i).filterMap (fun n => l.find? fun b => decide (n = b.seq)) ++ [b] := by
  rw [List.take_add_one, h]
  simp [List.filterMap_append, hb]
theorem c14g (H : Heap) (r mid : Nat) (low : Int) (l : List Bt) (bs : List Nat) (ck : Nat) (h : RcG H r mid low l bs ck) (hn : l.length ≤ 1000000) :
    CallOK Try.prog 14 [.ptr r 0 0] H (fun res H' => res = .p (.lst ((allB l).map batRow)) ∧ H' = H) := by
  refine (CallOK.frozen (Q := fun ps => ps = (allB l).map batRow) (CallOK.of_spec ?_)).mono (fun r H' hr => by obtain ⟨rfl, ps, rfl, rfl⟩ := hr; exact ⟨rfl, rfl⟩)
  have hr1 := h.row
  have hr2 := h.map
  have hlt1 := nth_lt hr1
  have hlt2 := nth_lt hr2
  have hpk : ∀ n : Int, keysOk (.int .i64) (l.map entB) ∧ keyOk (.int .i64) (.int .i64 n) = true := fun n => ⟨keysOk_entB l, rfl⟩
  refine Ab.Spec.walk hm Try.func14 (by kernel_rfl) 100 ?_
  repeat' (first
    | ((with_reducible apply Onw.mk); conv => whnf)
    | (with_reducible first | apply Br.tt | apply Br.ff | apply Br.no)
    | ((with_reducible apply Br.t); · assumption)
    | ((with_reducible apply Br.f); · assumption)
    | ((with_reducible apply Br.dt); · exact ab_known)
    | ((with_reducible apply Br.df); · exact ab_known)
    | (with_reducible first | refine Br.dec (fun hc => ?_) (fun hc => ?_) | refine Br.mk (fun hc => ?_) (fun hc => ?_))
    | (refine CallOK.go (c22 _ mid) (fun r2 H2 hr2 => ?_); obtain ⟨rfl, he2⟩ := hr2; rw [he2]; clear he2 H2)
    | (refine CallOK.go (c21g h hn) (fun r2 H2 hr2 => ?_); obtain ⟨rfl, he2⟩ := hr2; rw [he2]; clear he2 H2)
    | ((with_reducible first | apply NeedRows.mk | apply NeedMap.mk | apply NeedIter.mk); · exact ab_look)
    | ((with_reducible apply NeedLen.mk); · first | assumption | rfl)
    | ((with_reducible apply NeedRow.mk); · exact ab_lookR)
    | ((with_reducible apply DrawG.mk (List.replicate 60 false)); · decide +kernel)
    | (with_reducible first | refine NewP.mk (fun id hid => ?_) | refine NilP.mk (fun e he => ?_))
    | (with_reducible first | exact trivial | exact And.intro rfl rfl)
    | ((with_reducible apply PreP.mk); · exact ab_asked)
    | refine Exists.intro _ (PreP.mk (bytesOf_lst _) ?_)
    | refine PreP.mk (lenD_lst _) ?_
    | (with_reducible first | refine PreP.mk ?_ ?_ | refine BothP.mk ?_ ?_)
    | ((with_reducible apply AncOr.anc); · decide +kernel)
    | with_reducible refine AncOr.go ?_)
  have hget := fun i n => all_get (l := l) (i := i) (n := n)
  have hall : allB l = ((l.map (·.seq)).mergeSort leI).filterMap fun n => l.find? fun b => decide (n = b.seq) := rfl
  generalize hks : (l.map (·.seq)).mergeSort leI = ks at hget hall
  have hkl : ks.length = l.length := by rw [← hks, List.length_mergeSort, List.length_map]
  refine Run.virt 3 4 rfl ?_
  refine Run.keep [(0, .ptr r 0 0), (3, .own H.length 4 0 (0 : Nat) none), (11, .p (.lst (ks.map intRowZ))), (12, i64 (ks.map intRowZ).length), (13, i64 (0 : Nat))] ⟨rfl, rfl, rfl, rfl, rfl, trivial⟩ ?_
  refine Run.rounds (fun (i : Nat) T H2 => ∃ (out : List Bt) (id : Nat), T = [(0, .ptr r 0 0), (3, .own id 4 0 out.length none), (11, .p (.lst (ks.map intRowZ))), (12, i64 (ks.map intRowZ).length), (13, i64 (i : Nat))] ∧ OwnL H H2 id (out.map batRow) ∧ out.length = i ∧ i ≤ ks.length ∧
    out = (ks.take i).filterMap (fun n => l.find? fun b => decide (n = b.seq))) (fun i => ks.length - i) ?_ (x := 0) ⟨[], _, rfl, OwnL.start H, rfl, Nat.zero_le _, by simp⟩
  rintro i T H2 ⟨out, id, rfl, hO, hi, hil, hout⟩ ih
  have hrow := hO.2.2
  have hpre := hO.2.1
  obtain ⟨x, rfl⟩ := hpre
  have hlk : ((ks.map intRowZ).length : Int) = ks.length := by simp
  have hw1 : IntKind.i64.wrap ((i : Int) + 1) = (i + 1 : Nat) := by rw [wrap64 (by omega) (by omega)]; omega
  rcases Nat.lt_or_ge i ks.length with hi2 | hi2
  · obtain ⟨n, hnk⟩ : ∃ n, ks[i]? = some n := ⟨ks[i], by simp [hi2]⟩
    have hri : Ab.rowAt (ks.map intRowZ) (i : Int).toNat = intRowZ n := rowAt_map hnk
    have hrl : (Ab.rowAt (ks.map intRowZ) (i : Int).toNat).length = 1 := by rw [hri]; rfl
    have hrp : (0 : Int) ≤ (i : Int) ∧ (i : Int) < ((ks.map intRowZ).length : Int) ∧ (Ab.rowAt (ks.map intRowZ) (i : Int).toNat).length = 1 := ⟨by omega, by omega, hrl⟩
    obtain ⟨b, hb, hbs, hfind⟩ := hget i n hnk
    have hlk2 : lookE (l.map entB) (.int .i64 n) = some (.p (btP b)) := by rw [lookE_entB, hfind]; rfl
    refine Run.walk hm Try.func14 100 ?_
    repeat' (first
      | ((with_reducible apply Onw.mk); conv => whnf)
      | (with_reducible first | apply Br.tt | apply Br.ff | apply Br.no)
      | ((with_reducible apply Br.t); · assumption)
      | ((with_reducible apply Br.f); · assumption)
      | ((with_reducible apply Br.dt); · exact ab_known)
      | ((with_reducible apply Br.df); · exact ab_known)
      | (with_reducible first | refine Br.dec (fun hc => ?_) (fun hc => ?_) | refine Br.mk (fun hc => ?_) (fun hc => ?_))
      | (refine PreP.mk hrp ?_)
      | (refine EqP.mk hri ?_)
      | (refine PreP.mk (hpk _) ?_)
      | (refine OptP.some hlk2 ?_)
      | (refine CallOK.go (c20g _ b (h.good b hb)) (fun r2 H2 hr2 => ?_); obtain ⟨rfl, he2⟩ := hr2; rw [he2]; clear he2 H2)
      | ((with_reducible first | apply NeedRows.mk | apply NeedMap.mk | apply NeedIter.mk); · exact ab_look)
      | ((with_reducible apply NeedLen.mk); · first | assumption | rfl)
      | ((with_reducible apply NeedRow.mk); · exact ab_lookR)
      | ((with_reducible apply DrawG.mk (List.replicate 60 false)); · decide +kernel)
      | (with_reducible first | refine NewP.mk (fun id hid => ?_) | refine NilP.mk (fun e he => ?_))
      | (with_reducible first | exact trivial | exact And.intro rfl rfl)
      | ((with_reducible apply PreP.mk); · exact ab_asked)
      | refine Exists.intro _ (PreP.mk (bytesOf_lst _) ?_)
      | refine PreP.mk (lenD_lst _) ?_
      | (with_reducible first | refine PreP.mk ?_ ?_ | refine BothP.mk ?_ ?_)
      | ((with_reducible apply AncOr.anc); · decide +kernel)
      | with_reducible refine AncOr.go ?_)
    refine NewSlice.lst [batRow b] rfl rfl (fun q hq => by simp at hq; subst hq; rfl) ?_
    repeat' (first
      | ((with_reducible apply Onw.mk); conv => whnf)
      | (with_reducible first | apply Br.tt | apply Br.ff | apply Br.no)
      | ((with_reducible apply Br.t); · assumption)
      | ((with_reducible apply Br.f); · assumption)
      | ((with_reducible apply Br.dt); · exact ab_known)
      | ((with_reducible apply Br.df); · exact ab_known)
      | (with_reducible first | refine Br.dec (fun hc => ?_) (fun hc => ?_) | refine Br.mk (fun hc => ?_) (fun hc => ?_))
      | ((with_reducible first | apply NeedRows.mk | apply NeedMap.mk | apply NeedIter.mk); · exact ab_look)
      | ((with_reducible apply NeedLen.mk); · first | assumption | rfl)
      | ((with_reducible apply NeedRow.mk); · exact ab_lookR)
      | ((with_reducible apply DrawG.mk (List.replicate 60 false)); · decide +kernel)
      | (with_reducible first | refine NewP.mk (fun id hid => ?_) | refine NilP.mk (fun e he => ?_))
      | (with_reducible first | exact trivial | exact And.intro rfl rfl)
      | ((with_reducible apply PreP.mk); · exact ab_asked)
      | refine Exists.intro _ (PreP.mk (bytesOf_lst _) ?_)
      | refine PreP.mk (lenD_lst _) ?_
      | (with_reducible first | refine PreP.mk ?_ ?_ | refine BothP.mk ?_ ?_)
      | ((with_reducible apply AncOr.anc); · decide +kernel)
      | with_reducible refine AncOr.go ?_)
    · have := rows_preK 4 out.length (out.map batRow) [batRow b] (fun q hq => by simp at hq; subst hq; exact ⟨rfl, fun p hp => by simp [batRow] at hp; rcases hp with rfl | rfl | rfl | rfl <;> rfl⟩) 56 (by unfold maxRoom; simp; omega) (by unfold maxS; simp; omega) (by simp)
      exact this
    refine AppTo.new (fun id2 hid2 => ?_)
    repeat' (first
      | ((with_reducible apply Onw.mk); conv => whnf)
      | (with_reducible first | apply Br.tt | apply Br.ff | apply Br.no)
      | ((with_reducible apply Br.t); · assumption)
      | ((with_reducible apply Br.f); · assumption)
      | ((with_reducible apply Br.dt); · exact ab_known)
      | ((with_reducible apply Br.df); · exact ab_known)
      | (with_reducible first | refine Br.dec (fun hc => ?_) (fun hc => ?_) | refine Br.mk (fun hc => ?_) (fun hc => ?_))
      | ((with_reducible first | apply NeedRows.mk | apply NeedMap.mk | apply NeedIter.mk); · exact ab_look)
      | ((with_reducible apply NeedLen.mk); · first | assumption | rfl)
      | ((with_reducible apply NeedRow.mk); · exact ab_lookR)
      | ((with_reducible apply DrawG.mk (List.replicate 60 false)); · decide +kernel)
      | (with_reducible first | refine NewP.mk (fun id hid => ?_) | refine NilP.mk (fun e he => ?_))
      | (with_reducible first | exact trivial | exact And.intro rfl rfl)
      | ((with_reducible apply PreP.mk); · exact ab_asked)
      | refine Exists.intro _ (PreP.mk (bytesOf_lst _) ?_)
      | refine PreP.mk (lenD_lst _) ?_
      | (with_reducible first | refine PreP.mk ?_ ?_ | refine BothP.mk ?_ ?_)
      | ((with_reducible apply AncOr.anc); · decide +kernel)
      | with_reducible refine AncOr.go ?_)
    refine Run.keep _ ?_ (ih (i + 1) _ _ (by omega) ⟨out ++ [b], id2, rfl, ?_, by simp [hi], by omega, ?_⟩)
    · exact ⟨rfl, congrArg (fun n => some (D.own id2 4 0 n none)) (by simp), rfl, rfl, congrArg (fun n => some (i64 n)) hw1, trivial⟩
    · rw [List.map_append]
      refine hO.rows hid2 ?_
      rw [List.drop_zero, List.take_of_length_le (by rw [List.length_map, List.length_map]; exact Nat.le_refl _), List.map_append]
      rfl
    · rw [all_step ks i hnk hfind, hout]
  · have hi3 : ¬ (i : Int) < ((ks.map intRowZ).length : Int) := by rw [hlk]; omega
    refine Run.walk hm Try.func14 100 ?_
    repeat' (first
      | ((with_reducible apply Onw.mk); conv => whnf)
      | (with_reducible first | apply Br.tt | apply Br.ff | apply Br.no)
      | ((with_reducible apply Br.t); · assumption)
      | ((with_reducible apply Br.f); · assumption)
      | ((with_reducible apply Br.dt); · exact ab_known)
      | ((with_reducible apply Br.df); · exact ab_known)
      | (with_reducible first | refine Br.dec (fun hc => ?_) (fun hc => ?_) | refine Br.mk (fun hc => ?_) (fun hc => ?_))
      | ((with_reducible first | apply NeedRows.mk | apply NeedMap.mk | apply NeedIter.mk); · exact ab_look)
      | ((with_reducible apply NeedLen.mk); · first | assumption | rfl)
      | ((with_reducible apply NeedRow.mk); · exact ab_lookR)
      | ((with_reducible apply DrawG.mk (List.replicate 60 false)); · decide +kernel)
      | (with_reducible first | refine NewP.mk (fun id hid => ?_) | refine NilP.mk (fun e he => ?_))
      | (with_reducible first | exact trivial | exact And.intro rfl rfl)
      | ((with_reducible apply PreP.mk); · exact ab_asked)
      | refine Exists.intro _ (PreP.mk (bytesOf_lst _) ?_)
      | refine PreP.mk (lenD_lst _) ?_
      | (with_reducible first | refine PreP.mk ?_ ?_ | refine BothP.mk ?_ ?_)
      | ((with_reducible apply AncOr.anc); · decide +kernel)
      | with_reducible refine AncOr.go ?_)
    have hall2 : out = allB l := by rw [hout, hall, List.take_of_length_le hi2]
    refine ⟨⟨x, rfl⟩, (allB l).map batRow, rfl, .inl ⟨id, 4, 0, none, _, hO.1, ?_, hrow, ?_, fun r hr => ?_⟩⟩
    · rw [← hall2, List.length_map]; rfl
    · rw [List.drop_zero, List.take_of_length_le (by rw [List.length_map, List.length_map, List.length_map, hall2]; exact Nat.le_refl _), hall2]
    · obtain ⟨y, _, rfl⟩ := List.mem_map.1 hr; rfl
end Go.Proofs.Ytjlhkbikconboaa
