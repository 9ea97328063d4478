/- What functions of the disk, and of the laws over it, do. Conditions: those that each theorem names. -/
import Derived.Test.YtanknokhbfijdaaD73
set_option linter.unusedVariables false
set_option linter.unusedSimpArgs false
namespace Go.Proofs.Ytanknokhbfijdaa
open Go.Ab
set_option maxRecDepth 100000
set_option maxHeartbeats 1000000
attribute [local irreducible] Run CallOK DetCall Br PreP BothP AncOr Onw NeedRows NeedMap NeedRow NeedLen NilP NeedIter RoundP EntryP EqP OptP NewP NewSlice NewMade AppTo DrawG anc drawB
def posN (fs : List RFl) (name : List UInt8) : Nat := fs.findIdx fun f => !strLt f.name name
theorem pos_here {fs : List RFl} {name : List UInt8} {i : Nat} {f : RFl} (h : fs[i]? = some f) (hn : strLt f.name name = false) (hb : ∀ (k : Nat) (g : RFl), k < i → fs[k]? = some g → strLt g.name name = true) : posN fs name = i := by
  have hi : i < fs.length := (List.getElem?_eq_some_iff.1 h).1
  have hv := (List.getElem?_eq_some_iff.1 h).2
  refine (List.findIdx_eq hi).2 ⟨by rw [hv]; simp [hn], fun k hk => ?_⟩
  have := hb k fs[k] hk (List.getElem?_eq_getElem (by omega))
  simp [this]
theorem pos_none {fs : List RFl} {name : List UInt8} (hb : ∀ (k : Nat) (g : RFl), fs[k]? = some g → strLt g.name name = true) : posN fs name = fs.length := by
  refine List.findIdx_eq_length.2 fun g hg => ?_
  obtain ⟨k, hk⟩ := List.mem_iff_getElem?.1 hg
  simp [hb k g hk]
theorem posN_le (fs : List RFl) (name : List UInt8) : posN fs name ≤ fs.length := List.findIdx_le_length
def insRows (fs : List RFl) (name : List UInt8) (xr : List D) : List (List D) := (fs.map rowF).take (posN fs name) ++ [xr] ++ (fs.map rowF).drop (posN fs name)
def insHeap (H : Heap) (r fid : Nat) (fs : List RFl) (q s p : Int) (o : Bool) (name : List UInt8) (xr : List D) : Heap :=
  setN (setN (H ++ [.rows [xr]]) fid .gone ++ [.rows (insRows fs name xr)]) r (rRow (H.length + 1) (fs.length + 1) q s p o)
theorem ins_eq {α : Type} {rs : List α} {z x : α} {k n : Nat} (hn : rs.length = n) (hk : k ≤ n) :
    setN (List.take (k + 1) (rs ++ [z]) ++ List.take (min (n + 1 - k) (n - k)) (List.take (n + 1 - k) (List.drop k (rs ++ [z]))) ++ List.drop (k + 1 + min (n + 1 - k) (n - k)) (rs ++ [z])) k x = rs.take k ++ [x] ++ rs.drop k := by
  subst hn
  have e1 : List.take (rs.length + 1 - k) (List.drop k (rs ++ [z])) = rs.drop k ++ [z] := by
    rw [List.drop_append_of_le_length hk, List.take_of_length_le (by simp; omega)]
  have e2 : List.take (min (rs.length + 1 - k) (rs.length - k)) (rs.drop k ++ [z]) = rs.drop k := by
    rw [show min (rs.length + 1 - k) (rs.length - k) = rs.length - k by omega]
    exact List.take_left' (by simp)
  have e3 : List.drop (k + 1 + min (rs.length + 1 - k) (rs.length - k)) (rs ++ [z]) = [] := List.drop_eq_nil_of_le (by simp; omega)
  have hA : (List.take (k + 1) (rs ++ [z])).length = k + 1 := by simp; omega
  rw [e1, e2, e3, List.append_nil, setN_eq, List.set_eq_take_append_cons_drop, if_pos (by rw [List.length_append, hA]; omega)]
  rw [List.take_append_of_le_length (by omega), List.take_take, Nat.min_eq_left (by omega), List.take_append_of_le_length hk, List.drop_left' hA]
  simp
theorem ins_eq2 {rs : List (List D)} {z x : List D} {k n : Nat} (hn : rs.length = n) (hk : k ≤ n) :
    setN (List.take (k + 1) (rs ++ [z]) ++ List.take (min (List.take (n + 1 - k) (List.drop k (rs ++ [z]))).length (n + 1 - (k + 1))) (List.take (n + 1 - k) (List.drop k (rs ++ [z]))) ++ List.drop (k + 1 + min (List.take (n + 1 - k) (List.drop k (rs ++ [z]))).length (n + 1 - (k + 1))) (rs ++ [z])) k x = rs.take k ++ [x] ++ rs.drop k := by
  have e : (List.take (n + 1 - k) (List.drop k (rs ++ [z]))).length = n + 1 - k := by simp; omega
  rw [e, show n + 1 - (k + 1) = n - k by omega]
  exact ins_eq hn hk
theorem cp_row {rs : List (List D)} {z y : List D} {k n : Nat} (hn : rs.length = n) (hk : k ≤ n) (hy : nth (rs ++ [z]) k = some y) :
    nth (List.take (k + 1) (rs ++ [z]) ++ List.take (min (List.take (n + 1 - k) (List.drop k (rs ++ [z]))).length (n + 1 - (k + 1))) (List.take (n + 1 - k) (List.drop k (rs ++ [z]))) ++ List.drop (k + 1 + min (List.take (n + 1 - k) (List.drop k (rs ++ [z]))).length (n + 1 - (k + 1))) (rs ++ [z])) k = some y := by
  rw [nth_eq] at hy ⊢
  rw [List.append_assoc, List.getElem?_append_left (by simp; omega), List.getElem?_take, if_pos (by omega)]
  exact hy
theorem ins_heap {X : Heap} {r id2 : Nat} {R a b c : Ab.Obj} (hr : r < X.length) (hid : id2 = X.length) : setN (setN (setN (X ++ [a]) r R) id2 b) id2 c = setN (X ++ [c]) r R := by
  rw [setN_setN, setN_app hr, setN_last (by rw [setN_length]; exact hid), setN_app hr]
theorem s57n (H : Heap) (r fid : Nat) (fs : List RFl) (q s p : Int) (o : Bool) (name : List UInt8) (h : nth H r = some (rRow fid fs.length q s p o)) (h2 : nth H fid = some (.rows (fs.map rowF))) (hne : r ≠ fid) (hl : fs.length ≤ 100000) :
    Ab.Spec Try.prog 57 [.ptr r 0 0, .p (.agg [.str name, .nil, .int .i64 0])] H (fun res H' => res = .tup [] ∧ H' = insHeap H r fid fs q s p o name [.p (.str name), .p .nil, i64 0]) := by
  unfold rRow at h
  refine Ab.Spec.walk hm Try.func57 (by kernel_rfl) 200 ?_
  repeat' (first
    | ((with_reducible apply Onw.mk); conv => whnf)
    | (with_reducible first | apply Br.tt | apply Br.ff | apply Br.no)
    | ((with_reducible apply Br.t); · assumption)
    | ((with_reducible apply Br.f); · assumption)
    | ((with_reducible apply Br.dt); · exact ab_known)
    | ((with_reducible apply Br.df); · exact ab_known)
    | (with_reducible first | refine Br.dec (fun hc => ?_) (fun hc => ?_) | refine Br.mk (fun hc => ?_) (fun hc => ?_))
    | ((with_reducible first | apply NeedRows.mk | apply NeedMap.mk | apply NeedIter.mk); · exact ab_look)
    | ((with_reducible apply NeedLen.mk); · first | assumption | rfl)
    | ((with_reducible apply NeedRow.mk); · exact ab_lookR)
    | ((with_reducible apply DrawG.mk (List.replicate 60 false)); · decide +kernel)
    | (with_reducible first | refine NewP.mk (fun id hid => ?_) | refine NilP.mk (fun e he => ?_))
    | (with_reducible first | exact trivial | exact And.intro rfl rfl)
    | ((with_reducible apply PreP.mk); · exact ab_asked)
    | refine Exists.intro _ (PreP.mk (bytesOf_lst _) ?_)
    | refine PreP.mk (lenD_lst _) ?_
    | (with_reducible first | refine PreP.mk ?_ ?_ | refine BothP.mk ?_ ?_)
    | ((with_reducible apply AncOr.anc); · decide +kernel)
    | with_reducible refine AncOr.go ?_)
  have hlr := nth_lt h
  have hlf := nth_lt h2
  have h' : nth (H ++ [.rows [[.p (.str name), .p .nil, i64 0]]]) r = some (.rows [[.own fid 3 0 fs.length none, i64 q, i64 s, i64 p, boolD o]]) := nth_app h
  have h2' : nth (H ++ [.rows [[.p (.str name), .p .nil, i64 0]]]) fid = some (.rows (fs.map rowF)) := nth_app h2
  have hbx : nth (H ++ [.rows [[.p (.str name), .p .nil, i64 0]]]) id = some (.rows [[.p (.str name), .p .nil, i64 0]]) := nth_new hid
  refine Run.keep [(0, .ptr r 0 0), (3, .ptr id 0 0), (4, i64 (0 : Nat))] ⟨rfl, rfl, rfl, trivial⟩ ?_
  refine Run.loop (fun (i : Nat) => [(0, .ptr r 0 0), (3, .ptr id 0 0), (4, i64 i)]) (fun _ => H ++ [.rows [[.p (.str name), .p .nil, i64 0]]]) (fun i => i ≤ fs.length ∧ ∀ (k : Nat) (g : RFl), k < i → fs[k]? = some g → strLt g.name name = true) (fun i => fs.length - i) ?_ 0 ⟨Nat.zero_le _, fun k g hk => absurd hk (Nat.not_lt_zero _)⟩
  rintro i ⟨hi, hb⟩ ih
  have hstop : posN fs name = i → Run Try.prog 57 Try.f57.ntmps H.length [] [] H (fun _ _ => True) → True := fun _ _ => trivial
  refine Run.walk hm Try.func57 100 ?_
  rcases Nat.lt_or_ge i fs.length with hil | hil
  · obtain ⟨f, hf⟩ : ∃ f, fs[i]? = some f := ⟨_, List.getElem?_eq_getElem hil⟩
    have hnth := rowF_nth hf
    have hc1 : (i : Int) < (fs.length : Int) := by omega
    cases hlt : strLt f.name name with
    | true =>
      repeat' (first
        | ((with_reducible apply Onw.mk); conv => whnf)
        | (with_reducible first | apply Br.tt | apply Br.ff | apply Br.no)
        | ((with_reducible apply Br.t); · assumption)
        | ((with_reducible apply Br.f); · assumption)
        | ((with_reducible apply Br.dt); · exact ab_known)
        | ((with_reducible apply Br.df); · exact ab_known)
        | (with_reducible first | refine Br.dec (fun hc => ?_) (fun hc => ?_) | refine Br.mk (fun hc => ?_) (fun hc => ?_))
        | ((with_reducible first | apply NeedRows.mk | apply NeedMap.mk | apply NeedIter.mk); · exact ab_look)
        | ((with_reducible apply NeedLen.mk); · first | assumption | rfl)
        | ((with_reducible apply NeedRow.mk); · exact ab_lookR)
        | ((with_reducible apply DrawG.mk (List.replicate 60 false)); · decide +kernel)
        | (with_reducible first | refine NewP.mk (fun id hid => ?_) | refine NilP.mk (fun e he => ?_))
        | (with_reducible first | exact trivial | exact And.intro rfl rfl)
        | ((with_reducible apply PreP.mk); · exact ab_asked)
        | refine Exists.intro _ (PreP.mk (bytesOf_lst _) ?_)
        | refine PreP.mk (lenD_lst _) ?_
        | (with_reducible first | refine PreP.mk ?_ ?_ | refine BothP.mk ?_ ?_)
        | ((with_reducible apply AncOr.anc); · decide +kernel)
        | with_reducible refine AncOr.go ?_)
      refine Run.keep _ ?_ (ih (i + 1) ⟨by omega, fun k g hk hg => ?_⟩ (by omega))
      · exact ⟨rfl, rfl, slot64 (by omega) (by omega) (by omega), trivial⟩
      · rcases Nat.lt_or_ge k i with q | q
        · exact hb k g q hg
        · obtain rfl : k = i := by omega
          rw [hf] at hg; cases hg; exact hlt
    | false =>
      have hpos := pos_here hf hlt hb
      repeat' (first
        | ((with_reducible apply Onw.mk); conv => whnf)
        | (with_reducible first | apply Br.tt | apply Br.ff | apply Br.no)
        | ((with_reducible apply Br.t); · assumption)
        | ((with_reducible apply Br.f); · assumption)
        | ((with_reducible apply Br.dt); · exact ab_known)
        | ((with_reducible apply Br.df); · exact ab_known)
        | (with_reducible first | refine Br.dec (fun hc => ?_) (fun hc => ?_) | refine Br.mk (fun hc => ?_) (fun hc => ?_))
        | ((with_reducible first | apply NeedRows.mk | apply NeedMap.mk | apply NeedIter.mk); · exact ab_look)
        | ((with_reducible apply NeedLen.mk); · first | assumption | rfl)
        | ((with_reducible apply NeedRow.mk); · exact ab_lookR)
        | ((with_reducible apply DrawG.mk (List.replicate 60 false)); · decide +kernel)
        | (with_reducible first | refine NewP.mk (fun id hid => ?_) | refine NilP.mk (fun e he => ?_))
        | (with_reducible first | exact trivial | exact And.intro rfl rfl)
        | ((with_reducible apply PreP.mk); · exact ab_asked)
        | refine Exists.intro _ (PreP.mk (bytesOf_lst _) ?_)
        | refine PreP.mk (lenD_lst _) ?_
        | (with_reducible first | refine PreP.mk ?_ ?_ | refine BothP.mk ?_ ?_)
        | ((with_reducible apply AncOr.anc); · decide +kernel)
        | with_reducible refine AncOr.go ?_)
      refine NewSlice.lst [[.str [], .nil, .int .i64 0]] rfl rfl (fun q hq => by simp at hq; subst hq; rfl) ?_
      have hne2 : fid ≠ r := fun e => hne e.symm
      have hb2 : id ≠ fid := by omega
      have hb3 : id ≠ r := by omega
      have hb4 : fid ≠ id := by omega
      have hb5 : r ≠ id := by omega
      have wi : IntKind.i64.wrap ((i : Int) + 1) = (i : Int) + 1 := wrap64 (by omega) (by omega)
      have hdt : (List.take fs.length (List.drop 0 (fs.map rowF))) = fs.map rowF := by rw [List.drop_zero, List.take_of_length_le (by simp)]
      repeat' (first
        | ((with_reducible apply Onw.mk); conv => whnf)
        | (with_reducible first | apply Br.tt | apply Br.ff | apply Br.no)
        | ((with_reducible apply Br.t); · assumption)
        | ((with_reducible apply Br.f); · assumption)
        | ((with_reducible apply Br.dt); · exact ab_known)
        | ((with_reducible apply Br.df); · exact ab_known)
        | (with_reducible first | refine Br.dec (fun hc => ?_) (fun hc => ?_) | refine Br.mk (fun hc => ?_) (fun hc => ?_))
        | ((with_reducible first | apply NeedRows.mk | apply NeedMap.mk | apply NeedIter.mk); · exact ab_look)
        | ((with_reducible apply NeedLen.mk); · first | assumption | rfl)
        | ((with_reducible apply NeedRow.mk); · exact ab_lookR)
        | ((with_reducible apply DrawG.mk (List.replicate 60 false)); · decide +kernel)
        | (with_reducible first | refine NewP.mk (fun id hid => ?_) | refine NilP.mk (fun e he => ?_))
        | (with_reducible first | exact trivial | exact And.intro rfl rfl)
        | ((with_reducible apply PreP.mk); · exact ab_asked)
        | refine Exists.intro _ (PreP.mk (bytesOf_lst _) ?_)
        | refine PreP.mk (lenD_lst _) ?_
        | (with_reducible first | refine PreP.mk ?_ ?_ | refine BothP.mk ?_ ?_)
        | ((with_reducible apply AncOr.anc); · decide +kernel)
        | with_reducible refine AncOr.go ?_)
      · exact ⟨(by show (fs.length + 1) * 48 ≤ maxRoom; unfold maxRoom; omega), (by show fs.length + 1 ≤ maxS; unfold maxS; omega), (fun q hq => by simp at hq; subst hq; rfl), (fun q hq => by simp at hq; subst hq; intro d hd; simp at hd; rcases hd with rfl | rfl | rfl <;> rfl), (by simp)⟩
      refine AppTo.new (fun id2 hid2 => ?_)
      rw [hdt]
      have hl2 : id2 = H.length + 1 := by rw [hid2]; simp
      have hb6 : r ≠ id2 := by omega
      have hb7 : id2 ≠ r := by omega
      have hb8 : id2 ≠ id := by omega
      have hp1 : (0 : Int) ≤ IntKind.i64.wrap ((i : Int) + 1) ∧ IntKind.i64.wrap ((i : Int) + 1) ≤ ((fs.length + 1 : Nat) : Int) ∧ ((fs.length + 1 : Nat) : Int) ≤ ((fs.length + 1 : Nat) : Int) := by rw [wi]; omega
      have hp2 : (0 : Int) ≤ (i : Int) ∧ (i : Int) ≤ ((fs.length + 1 : Nat) : Int) ∧ ((fs.length + 1 : Nat) : Int) ≤ ((fs.length + 1 : Nat) : Int) := by omega
      have hones : ∀ q ∈ fs.map rowF ++ [[.p (.str []), .p .nil, i64 0]], q.length = 3 ∧ ∀ d ∈ q, isOne d = true := fun q hq => by
        rcases List.mem_append.1 hq with hq | hq
        · obtain ⟨g, _, rfl⟩ := List.mem_map.1 hq; exact ⟨rfl, fun d hd => by simp [rowF] at hd; rcases hd with rfl | rfl | rfl <;> rfl⟩
        · simp at hq; subst hq; exact ⟨rfl, fun d hd => by simp at hd; rcases hd with rfl | rfl | rfl <;> rfl⟩
      have t1 : ((i : Int) + 1).toNat = i + 1 := by omega
      have t2 : (i : Int).toNat = i := Int.toNat_natCast i
      have hp3 : (0 : Int) ≤ (i : Int) ∧ (i : Int) < ((fs.length + 1 : Nat) : Int) := by omega
      repeat' (first
        | ((with_reducible apply Onw.mk); conv => whnf)
        | (with_reducible first | apply Br.tt | apply Br.ff | apply Br.no)
        | ((with_reducible apply Br.t); · assumption)
        | ((with_reducible apply Br.f); · assumption)
        | ((with_reducible apply Br.dt); · exact ab_known)
        | ((with_reducible apply Br.df); · exact ab_known)
        | (with_reducible first | refine Br.dec (fun hc => ?_) (fun hc => ?_) | refine Br.mk (fun hc => ?_) (fun hc => ?_))
        | (refine PreP.mk hp1 ?_)
        | (refine PreP.mk hp2 ?_)
        | (refine PreP.mk hp3 ?_)
        | ((with_reducible apply DrawG.mk [false, false, false, false, false, false, false, true, false, false, false, false, false, true]); · decide +kernel)
        | ((with_reducible first | apply NeedRows.mk | apply NeedMap.mk | apply NeedIter.mk); · exact ab_look)
        | ((with_reducible apply NeedLen.mk); · first | assumption | rfl)
        | ((with_reducible apply NeedRow.mk); · exact ab_lookR)
        | ((with_reducible apply DrawG.mk (List.replicate 60 false)); · decide +kernel)
        | (with_reducible first | refine NewP.mk (fun id hid => ?_) | refine NilP.mk (fun e he => ?_))
        | (with_reducible first | exact trivial | exact And.intro rfl rfl)
        | ((with_reducible apply PreP.mk); · exact ab_asked)
        | refine Exists.intro _ (PreP.mk (bytesOf_lst _) ?_)
        | refine PreP.mk (lenD_lst _) ?_
        | (with_reducible first | refine PreP.mk ?_ ?_ | refine BothP.mk ?_ ?_)
        | ((with_reducible apply AncOr.anc); · decide +kernel)
        | with_reducible refine AncOr.go ?_)
      · show fs.length + 1 - (i : Int).toNat = (List.take (fs.length + 1 - (i : Int).toNat) (List.drop (0 + (i : Int).toNat) (fs.map rowF ++ [[.p (.str []), .p .nil, i64 0]]))).length
        first | (simp; done) | (simp; omega)
      · refine ⟨fun q hq => (hones q (List.mem_of_mem_drop (List.mem_of_mem_take hq))).1, fun q hq => (hones q (List.mem_of_mem_drop (List.mem_of_mem_take hq))).2, ?_⟩
        rw [wi, t1]
        show 0 + (i + 1) + (fs.length + 1 - (i + 1)) ≤ (fs.map rowF ++ [[.p (.str []), .p .nil, i64 0]]).length
        simp; omega
      refine NeedRow.mk (row := rowF f) (by simp only [wi, t1, t2, Nat.zero_add]; exact cp_row (by simp) hi (by rw [nth_eq]; rw [List.getElem?_append_left (by simp; omega), List.getElem?_map, hf]; rfl)) ?_
      repeat' (first
        | ((with_reducible apply Onw.mk); conv => whnf)
        | (with_reducible first | apply Br.tt | apply Br.ff | apply Br.no)
        | ((with_reducible apply Br.t); · assumption)
        | ((with_reducible apply Br.f); · assumption)
        | ((with_reducible apply Br.dt); · exact ab_known)
        | ((with_reducible apply Br.df); · exact ab_known)
        | (with_reducible first | refine Br.dec (fun hc => ?_) (fun hc => ?_) | refine Br.mk (fun hc => ?_) (fun hc => ?_))
        | ((with_reducible first | apply NeedRows.mk | apply NeedMap.mk | apply NeedIter.mk); · exact ab_look)
        | ((with_reducible apply NeedLen.mk); · first | assumption | rfl)
        | ((with_reducible apply NeedRow.mk); · exact ab_lookR)
        | ((with_reducible apply DrawG.mk (List.replicate 60 false)); · decide +kernel)
        | (with_reducible first | refine NewP.mk (fun id hid => ?_) | refine NilP.mk (fun e he => ?_))
        | (with_reducible first | exact trivial | exact And.intro rfl rfl)
        | ((with_reducible apply PreP.mk); · exact ab_asked)
        | refine Exists.intro _ (PreP.mk (bytesOf_lst _) ?_)
        | refine PreP.mk (lenD_lst _) ?_
        | (with_reducible first | refine PreP.mk ?_ ?_ | refine BothP.mk ?_ ?_)
        | ((with_reducible apply AncOr.anc); · decide +kernel)
        | with_reducible refine AncOr.go ?_)
      all_goals
        refine ⟨rfl, ?_⟩
        refine (ins_heap (by rw [setN_length]; simp; omega) (by rw [setN_length]; simp; omega)).trans ?_
        simp only [wi, t1, t2, Nat.zero_add]
        unfold insHeap insRows
        rw [hpos, ← hl2]
        exact congrArg (fun L => setN (setN (H ++ [Ab.Obj.rows [[.p (.str name), .p .nil, i64 0]]]) fid .gone ++ [.rows L]) r (rRow id2 (fs.length + 1) q s p o)) (ins_eq2 (rs := fs.map rowF) (z := [.p (.str []), .p .nil, i64 0]) (x := [.p (.str name), .p .nil, i64 0]) (k := i) (n := fs.length) (by simp) hi)
  · have hc1 : ¬ (i : Int) < (fs.length : Int) := by omega
    have hpos := pos_none (fun k g hg => hb k g (by have := (List.getElem?_eq_some_iff.1 hg).1; omega) hg)
    rw [show fs.length = i by omega] at hpos
    repeat' (first
      | ((with_reducible apply Onw.mk); conv => whnf)
      | (with_reducible first | apply Br.tt | apply Br.ff | apply Br.no)
      | ((with_reducible apply Br.t); · assumption)
      | ((with_reducible apply Br.f); · assumption)
      | ((with_reducible apply Br.dt); · exact ab_known)
      | ((with_reducible apply Br.df); · exact ab_known)
      | (with_reducible first | refine Br.dec (fun hc => ?_) (fun hc => ?_) | refine Br.mk (fun hc => ?_) (fun hc => ?_))
      | ((with_reducible first | apply NeedRows.mk | apply NeedMap.mk | apply NeedIter.mk); · exact ab_look)
      | ((with_reducible apply NeedLen.mk); · first | assumption | rfl)
      | ((with_reducible apply NeedRow.mk); · exact ab_lookR)
      | ((with_reducible apply DrawG.mk (List.replicate 60 false)); · decide +kernel)
      | (with_reducible first | refine NewP.mk (fun id hid => ?_) | refine NilP.mk (fun e he => ?_))
      | (with_reducible first | exact trivial | exact And.intro rfl rfl)
      | ((with_reducible apply PreP.mk); · exact ab_asked)
      | refine Exists.intro _ (PreP.mk (bytesOf_lst _) ?_)
      | refine PreP.mk (lenD_lst _) ?_
      | (with_reducible first | refine PreP.mk ?_ ?_ | refine BothP.mk ?_ ?_)
      | ((with_reducible apply AncOr.anc); · decide +kernel)
      | with_reducible refine AncOr.go ?_)
    refine NewSlice.lst [[.str [], .nil, .int .i64 0]] rfl rfl (fun q hq => by simp at hq; subst hq; rfl) ?_
    have hne2 : fid ≠ r := fun e => hne e.symm
    have hb2 : id ≠ fid := by omega
    have hb3 : id ≠ r := by omega
    have hb4 : fid ≠ id := by omega
    have hb5 : r ≠ id := by omega
    have wi : IntKind.i64.wrap ((i : Int) + 1) = (i : Int) + 1 := wrap64 (by omega) (by omega)
    have hdt : (List.take fs.length (List.drop 0 (fs.map rowF))) = fs.map rowF := by rw [List.drop_zero, List.take_of_length_le (by simp)]
    repeat' (first
      | ((with_reducible apply Onw.mk); conv => whnf)
      | (with_reducible first | apply Br.tt | apply Br.ff | apply Br.no)
      | ((with_reducible apply Br.t); · assumption)
      | ((with_reducible apply Br.f); · assumption)
      | ((with_reducible apply Br.dt); · exact ab_known)
      | ((with_reducible apply Br.df); · exact ab_known)
      | (with_reducible first | refine Br.dec (fun hc => ?_) (fun hc => ?_) | refine Br.mk (fun hc => ?_) (fun hc => ?_))
      | ((with_reducible first | apply NeedRows.mk | apply NeedMap.mk | apply NeedIter.mk); · exact ab_look)
      | ((with_reducible apply NeedLen.mk); · first | assumption | rfl)
      | ((with_reducible apply NeedRow.mk); · exact ab_lookR)
      | ((with_reducible apply DrawG.mk (List.replicate 60 false)); · decide +kernel)
      | (with_reducible first | refine NewP.mk (fun id hid => ?_) | refine NilP.mk (fun e he => ?_))
      | (with_reducible first | exact trivial | exact And.intro rfl rfl)
      | ((with_reducible apply PreP.mk); · exact ab_asked)
      | refine Exists.intro _ (PreP.mk (bytesOf_lst _) ?_)
      | refine PreP.mk (lenD_lst _) ?_
      | (with_reducible first | refine PreP.mk ?_ ?_ | refine BothP.mk ?_ ?_)
      | ((with_reducible apply AncOr.anc); · decide +kernel)
      | with_reducible refine AncOr.go ?_)
    · exact ⟨(by show (fs.length + 1) * 48 ≤ maxRoom; unfold maxRoom; omega), (by show fs.length + 1 ≤ maxS; unfold maxS; omega), (fun q hq => by simp at hq; subst hq; rfl), (fun q hq => by simp at hq; subst hq; intro d hd; simp at hd; rcases hd with rfl | rfl | rfl <;> rfl), (by simp)⟩
    refine AppTo.new (fun id2 hid2 => ?_)
    rw [hdt]
    have hl2 : id2 = H.length + 1 := by rw [hid2]; simp
    have hb6 : r ≠ id2 := by omega
    have hb7 : id2 ≠ r := by omega
    have hb8 : id2 ≠ id := by omega
    have hp1 : (0 : Int) ≤ IntKind.i64.wrap ((i : Int) + 1) ∧ IntKind.i64.wrap ((i : Int) + 1) ≤ ((fs.length + 1 : Nat) : Int) ∧ ((fs.length + 1 : Nat) : Int) ≤ ((fs.length + 1 : Nat) : Int) := by rw [wi]; omega
    have hp2 : (0 : Int) ≤ (i : Int) ∧ (i : Int) ≤ ((fs.length + 1 : Nat) : Int) ∧ ((fs.length + 1 : Nat) : Int) ≤ ((fs.length + 1 : Nat) : Int) := by omega
    have hones : ∀ q ∈ fs.map rowF ++ [[.p (.str []), .p .nil, i64 0]], q.length = 3 ∧ ∀ d ∈ q, isOne d = true := fun q hq => by
      rcases List.mem_append.1 hq with hq | hq
      · obtain ⟨g, _, rfl⟩ := List.mem_map.1 hq; exact ⟨rfl, fun d hd => by simp [rowF] at hd; rcases hd with rfl | rfl | rfl <;> rfl⟩
      · simp at hq; subst hq; exact ⟨rfl, fun d hd => by simp at hd; rcases hd with rfl | rfl | rfl <;> rfl⟩
    have t1 : ((i : Int) + 1).toNat = i + 1 := by omega
    have t2 : (i : Int).toNat = i := Int.toNat_natCast i
    have hp3 : (0 : Int) ≤ (i : Int) ∧ (i : Int) < ((fs.length + 1 : Nat) : Int) := by omega
    repeat' (first
      | ((with_reducible apply Onw.mk); conv => whnf)
      | (with_reducible first | apply Br.tt | apply Br.ff | apply Br.no)
      | ((with_reducible apply Br.t); · assumption)
      | ((with_reducible apply Br.f); · assumption)
      | ((with_reducible apply Br.dt); · exact ab_known)
      | ((with_reducible apply Br.df); · exact ab_known)
      | (with_reducible first | refine Br.dec (fun hc => ?_) (fun hc => ?_) | refine Br.mk (fun hc => ?_) (fun hc => ?_))
      | (refine PreP.mk hp1 ?_)
      | (refine PreP.mk hp2 ?_)
      | (refine PreP.mk hp3 ?_)
      | ((with_reducible apply DrawG.mk [false, false, false, false, false, false, false, true, false, false, false, false, false, true]); · decide +kernel)
      | ((with_reducible first | apply NeedRows.mk | apply NeedMap.mk | apply NeedIter.mk); · exact ab_look)
      | ((with_reducible apply NeedLen.mk); · first | assumption | rfl)
      | ((with_reducible apply NeedRow.mk); · exact ab_lookR)
      | ((with_reducible apply DrawG.mk (List.replicate 60 false)); · decide +kernel)
      | (with_reducible first | refine NewP.mk (fun id hid => ?_) | refine NilP.mk (fun e he => ?_))
      | (with_reducible first | exact trivial | exact And.intro rfl rfl)
      | ((with_reducible apply PreP.mk); · exact ab_asked)
      | refine Exists.intro _ (PreP.mk (bytesOf_lst _) ?_)
      | refine PreP.mk (lenD_lst _) ?_
      | (with_reducible first | refine PreP.mk ?_ ?_ | refine BothP.mk ?_ ?_)
      | ((with_reducible apply AncOr.anc); · decide +kernel)
      | with_reducible refine AncOr.go ?_)
    · show fs.length + 1 - (i : Int).toNat = (List.take (fs.length + 1 - (i : Int).toNat) (List.drop (0 + (i : Int).toNat) (fs.map rowF ++ [[.p (.str []), .p .nil, i64 0]]))).length
      first | (simp; done) | (simp; omega)
    · refine ⟨fun q hq => (hones q (List.mem_of_mem_drop (List.mem_of_mem_take hq))).1, fun q hq => (hones q (List.mem_of_mem_drop (List.mem_of_mem_take hq))).2, ?_⟩
      rw [wi, t1]
      show 0 + (i + 1) + (fs.length + 1 - (i + 1)) ≤ (fs.map rowF ++ [[.p (.str []), .p .nil, i64 0]]).length
      simp; omega
    refine NeedRow.mk (row := [.p (.str []), .p .nil, i64 0]) (by simp only [wi, t1, t2, Nat.zero_add]; exact cp_row (by simp) hi (by rw [nth_eq]; rw [List.getElem?_append_right (by simp; omega), List.length_map, show i - fs.length = 0 by omega]; rfl)) ?_
    repeat' (first
      | ((with_reducible apply Onw.mk); conv => whnf)
      | (with_reducible first | apply Br.tt | apply Br.ff | apply Br.no)
      | ((with_reducible apply Br.t); · assumption)
      | ((with_reducible apply Br.f); · assumption)
      | ((with_reducible apply Br.dt); · exact ab_known)
      | ((with_reducible apply Br.df); · exact ab_known)
      | (with_reducible first | refine Br.dec (fun hc => ?_) (fun hc => ?_) | refine Br.mk (fun hc => ?_) (fun hc => ?_))
      | ((with_reducible first | apply NeedRows.mk | apply NeedMap.mk | apply NeedIter.mk); · exact ab_look)
      | ((with_reducible apply NeedLen.mk); · first | assumption | rfl)
      | ((with_reducible apply NeedRow.mk); · exact ab_lookR)
      | ((with_reducible apply DrawG.mk (List.replicate 60 false)); · decide +kernel)
      | (with_reducible first | refine NewP.mk (fun id hid => ?_) | refine NilP.mk (fun e he => ?_))
      | (with_reducible first | exact trivial | exact And.intro rfl rfl)
      | ((with_reducible apply PreP.mk); · exact ab_asked)
      | refine Exists.intro _ (PreP.mk (bytesOf_lst _) ?_)
      | refine PreP.mk (lenD_lst _) ?_
      | (with_reducible first | refine PreP.mk ?_ ?_ | refine BothP.mk ?_ ?_)
      | ((with_reducible apply AncOr.anc); · decide +kernel)
      | with_reducible refine AncOr.go ?_)
    all_goals
      refine ⟨rfl, ?_⟩
      refine (ins_heap (by rw [setN_length]; simp; omega) (by rw [setN_length]; simp; omega)).trans ?_
      simp only [wi, t1, t2, Nat.zero_add]
      unfold insHeap insRows
      rw [hpos, ← hl2]
      exact congrArg (fun L => setN (setN (H ++ [Ab.Obj.rows [[.p (.str name), .p .nil, i64 0]]]) fid .gone ++ [.rows L]) r (rRow id2 (fs.length + 1) q s p o)) (ins_eq2 (rs := fs.map rowF) (z := [.p (.str []), .p .nil, i64 0]) (x := [.p (.str name), .p .nil, i64 0]) (k := i) (n := fs.length) (by simp) hi)
theorem s57o (H : Heap) (r fid : Nat) (fs : List RFl) (q s p : Int) (o : Bool) (name : List UInt8) (bid nb : Nat) (kept : Int) (h : nth H r = some (rRow fid fs.length q s p o)) (h2 : nth H fid = some (.rows (fs.map rowF))) (hne : r ≠ fid) (hl : fs.length ≤ 100000) :
    Ab.Spec Try.prog 57 [.ptr r 0 0, .agg [.p (.str name), .own bid 1 0 nb none, i64 kept]] H (fun res H' => res = .tup [] ∧ H' = insHeap H r fid fs q s p o name [.p (.str name), .own bid 1 0 nb none, i64 kept]) := by
  unfold rRow at h
  refine Ab.Spec.walk hm Try.func57 (by kernel_rfl) 200 ?_
  repeat' (first
    | ((with_reducible apply Onw.mk); conv => whnf)
    | (with_reducible first | apply Br.tt | apply Br.ff | apply Br.no)
    | ((with_reducible apply Br.t); · assumption)
    | ((with_reducible apply Br.f); · assumption)
    | ((with_reducible apply Br.dt); · exact ab_known)
    | ((with_reducible apply Br.df); · exact ab_known)
    | (with_reducible first | refine Br.dec (fun hc => ?_) (fun hc => ?_) | refine Br.mk (fun hc => ?_) (fun hc => ?_))
    | ((with_reducible first | apply NeedRows.mk | apply NeedMap.mk | apply NeedIter.mk); · exact ab_look)
    | ((with_reducible apply NeedLen.mk); · first | assumption | rfl)
    | ((with_reducible apply NeedRow.mk); · exact ab_lookR)
    | ((with_reducible apply DrawG.mk (List.replicate 60 false)); · decide +kernel)
    | (with_reducible first | refine NewP.mk (fun id hid => ?_) | refine NilP.mk (fun e he => ?_))
    | (with_reducible first | exact trivial | exact And.intro rfl rfl)
    | ((with_reducible apply PreP.mk); · exact ab_asked)
    | refine Exists.intro _ (PreP.mk (bytesOf_lst _) ?_)
    | refine PreP.mk (lenD_lst _) ?_
    | (with_reducible first | refine PreP.mk ?_ ?_ | refine BothP.mk ?_ ?_)
    | ((with_reducible apply AncOr.anc); · decide +kernel)
    | with_reducible refine AncOr.go ?_)
  have hlr := nth_lt h
  have hlf := nth_lt h2
  have h' : nth (H ++ [.rows [[.p (.str name), .own bid 1 0 nb none, i64 kept]]]) r = some (.rows [[.own fid 3 0 fs.length none, i64 q, i64 s, i64 p, boolD o]]) := nth_app h
  have h2' : nth (H ++ [.rows [[.p (.str name), .own bid 1 0 nb none, i64 kept]]]) fid = some (.rows (fs.map rowF)) := nth_app h2
  have hbx : nth (H ++ [.rows [[.p (.str name), .own bid 1 0 nb none, i64 kept]]]) id = some (.rows [[.p (.str name), .own bid 1 0 nb none, i64 kept]]) := nth_new hid
  refine Run.keep [(0, .ptr r 0 0), (3, .ptr id 0 0), (4, i64 (0 : Nat))] ⟨rfl, rfl, rfl, trivial⟩ ?_
  refine Run.loop (fun (i : Nat) => [(0, .ptr r 0 0), (3, .ptr id 0 0), (4, i64 i)]) (fun _ => H ++ [.rows [[.p (.str name), .own bid 1 0 nb none, i64 kept]]]) (fun i => i ≤ fs.length ∧ ∀ (k : Nat) (g : RFl), k < i → fs[k]? = some g → strLt g.name name = true) (fun i => fs.length - i) ?_ 0 ⟨Nat.zero_le _, fun k g hk => absurd hk (Nat.not_lt_zero _)⟩
  rintro i ⟨hi, hb⟩ ih
  have hstop : posN fs name = i → Run Try.prog 57 Try.f57.ntmps H.length [] [] H (fun _ _ => True) → True := fun _ _ => trivial
  refine Run.walk hm Try.func57 100 ?_
  rcases Nat.lt_or_ge i fs.length with hil | hil
  · obtain ⟨f, hf⟩ : ∃ f, fs[i]? = some f := ⟨_, List.getElem?_eq_getElem hil⟩
    have hnth := rowF_nth hf
    have hc1 : (i : Int) < (fs.length : Int) := by omega
    cases hlt : strLt f.name name with
    | true =>
      repeat' (first
        | ((with_reducible apply Onw.mk); conv => whnf)
        | (with_reducible first | apply Br.tt | apply Br.ff | apply Br.no)
        | ((with_reducible apply Br.t); · assumption)
        | ((with_reducible apply Br.f); · assumption)
        | ((with_reducible apply Br.dt); · exact ab_known)
        | ((with_reducible apply Br.df); · exact ab_known)
        | (with_reducible first | refine Br.dec (fun hc => ?_) (fun hc => ?_) | refine Br.mk (fun hc => ?_) (fun hc => ?_))
        | ((with_reducible first | apply NeedRows.mk | apply NeedMap.mk | apply NeedIter.mk); · exact ab_look)
        | ((with_reducible apply NeedLen.mk); · first | assumption | rfl)
        | ((with_reducible apply NeedRow.mk); · exact ab_lookR)
        | ((with_reducible apply DrawG.mk (List.replicate 60 false)); · decide +kernel)
        | (with_reducible first | refine NewP.mk (fun id hid => ?_) | refine NilP.mk (fun e he => ?_))
        | (with_reducible first | exact trivial | exact And.intro rfl rfl)
        | ((with_reducible apply PreP.mk); · exact ab_asked)
        | refine Exists.intro _ (PreP.mk (bytesOf_lst _) ?_)
        | refine PreP.mk (lenD_lst _) ?_
        | (with_reducible first | refine PreP.mk ?_ ?_ | refine BothP.mk ?_ ?_)
        | ((with_reducible apply AncOr.anc); · decide +kernel)
        | with_reducible refine AncOr.go ?_)
      refine Run.keep _ ?_ (ih (i + 1) ⟨by omega, fun k g hk hg => ?_⟩ (by omega))
      · exact ⟨rfl, rfl, slot64 (by omega) (by omega) (by omega), trivial⟩
      · rcases Nat.lt_or_ge k i with q | q
        · exact hb k g q hg
        · obtain rfl : k = i := by omega
          rw [hf] at hg; cases hg; exact hlt
    | false =>
      have hpos := pos_here hf hlt hb
      repeat' (first
        | ((with_reducible apply Onw.mk); conv => whnf)
        | (with_reducible first | apply Br.tt | apply Br.ff | apply Br.no)
        | ((with_reducible apply Br.t); · assumption)
        | ((with_reducible apply Br.f); · assumption)
        | ((with_reducible apply Br.dt); · exact ab_known)
        | ((with_reducible apply Br.df); · exact ab_known)
        | (with_reducible first | refine Br.dec (fun hc => ?_) (fun hc => ?_) | refine Br.mk (fun hc => ?_) (fun hc => ?_))
        | ((with_reducible first | apply NeedRows.mk | apply NeedMap.mk | apply NeedIter.mk); · exact ab_look)
        | ((with_reducible apply NeedLen.mk); · first | assumption | rfl)
        | ((with_reducible apply NeedRow.mk); · exact ab_lookR)
        | ((with_reducible apply DrawG.mk (List.replicate 60 false)); · decide +kernel)
        | (with_reducible first | refine NewP.mk (fun id hid => ?_) | refine NilP.mk (fun e he => ?_))
        | (with_reducible first | exact trivial | exact And.intro rfl rfl)
        | ((with_reducible apply PreP.mk); · exact ab_asked)
        | refine Exists.intro _ (PreP.mk (bytesOf_lst _) ?_)
        | refine PreP.mk (lenD_lst _) ?_
        | (with_reducible first | refine PreP.mk ?_ ?_ | refine BothP.mk ?_ ?_)
        | ((with_reducible apply AncOr.anc); · decide +kernel)
        | with_reducible refine AncOr.go ?_)
      refine NewSlice.lst [[.str [], .nil, .int .i64 0]] rfl rfl (fun q hq => by simp at hq; subst hq; rfl) ?_
      have hne2 : fid ≠ r := fun e => hne e.symm
      have hb2 : id ≠ fid := by omega
      have hb3 : id ≠ r := by omega
      have hb4 : fid ≠ id := by omega
      have hb5 : r ≠ id := by omega
      have wi : IntKind.i64.wrap ((i : Int) + 1) = (i : Int) + 1 := wrap64 (by omega) (by omega)
      have hdt : (List.take fs.length (List.drop 0 (fs.map rowF))) = fs.map rowF := by rw [List.drop_zero, List.take_of_length_le (by simp)]
      repeat' (first
        | ((with_reducible apply Onw.mk); conv => whnf)
        | (with_reducible first | apply Br.tt | apply Br.ff | apply Br.no)
        | ((with_reducible apply Br.t); · assumption)
        | ((with_reducible apply Br.f); · assumption)
        | ((with_reducible apply Br.dt); · exact ab_known)
        | ((with_reducible apply Br.df); · exact ab_known)
        | (with_reducible first | refine Br.dec (fun hc => ?_) (fun hc => ?_) | refine Br.mk (fun hc => ?_) (fun hc => ?_))
        | ((with_reducible first | apply NeedRows.mk | apply NeedMap.mk | apply NeedIter.mk); · exact ab_look)
        | ((with_reducible apply NeedLen.mk); · first | assumption | rfl)
        | ((with_reducible apply NeedRow.mk); · exact ab_lookR)
        | ((with_reducible apply DrawG.mk (List.replicate 60 false)); · decide +kernel)
        | (with_reducible first | refine NewP.mk (fun id hid => ?_) | refine NilP.mk (fun e he => ?_))
        | (with_reducible first | exact trivial | exact And.intro rfl rfl)
        | ((with_reducible apply PreP.mk); · exact ab_asked)
        | refine Exists.intro _ (PreP.mk (bytesOf_lst _) ?_)
        | refine PreP.mk (lenD_lst _) ?_
        | (with_reducible first | refine PreP.mk ?_ ?_ | refine BothP.mk ?_ ?_)
        | ((with_reducible apply AncOr.anc); · decide +kernel)
        | with_reducible refine AncOr.go ?_)
      · exact ⟨(by show (fs.length + 1) * 48 ≤ maxRoom; unfold maxRoom; omega), (by show fs.length + 1 ≤ maxS; unfold maxS; omega), (fun q hq => by simp at hq; subst hq; rfl), (fun q hq => by simp at hq; subst hq; intro d hd; simp at hd; rcases hd with rfl | rfl | rfl <;> rfl), (by simp)⟩
      refine AppTo.new (fun id2 hid2 => ?_)
      rw [hdt]
      have hl2 : id2 = H.length + 1 := by rw [hid2]; simp
      have hb6 : r ≠ id2 := by omega
      have hb7 : id2 ≠ r := by omega
      have hb8 : id2 ≠ id := by omega
      have hp1 : (0 : Int) ≤ IntKind.i64.wrap ((i : Int) + 1) ∧ IntKind.i64.wrap ((i : Int) + 1) ≤ ((fs.length + 1 : Nat) : Int) ∧ ((fs.length + 1 : Nat) : Int) ≤ ((fs.length + 1 : Nat) : Int) := by rw [wi]; omega
      have hp2 : (0 : Int) ≤ (i : Int) ∧ (i : Int) ≤ ((fs.length + 1 : Nat) : Int) ∧ ((fs.length + 1 : Nat) : Int) ≤ ((fs.length + 1 : Nat) : Int) := by omega
      have hones : ∀ q ∈ fs.map rowF ++ [[.p (.str []), .p .nil, i64 0]], q.length = 3 ∧ ∀ d ∈ q, isOne d = true := fun q hq => by
        rcases List.mem_append.1 hq with hq | hq
        · obtain ⟨g, _, rfl⟩ := List.mem_map.1 hq; exact ⟨rfl, fun d hd => by simp [rowF] at hd; rcases hd with rfl | rfl | rfl <;> rfl⟩
        · simp at hq; subst hq; exact ⟨rfl, fun d hd => by simp at hd; rcases hd with rfl | rfl | rfl <;> rfl⟩
      have t1 : ((i : Int) + 1).toNat = i + 1 := by omega
      have t2 : (i : Int).toNat = i := Int.toNat_natCast i
      have hp3 : (0 : Int) ≤ (i : Int) ∧ (i : Int) < ((fs.length + 1 : Nat) : Int) := by omega
      repeat' (first
        | ((with_reducible apply Onw.mk); conv => whnf)
        | (with_reducible first | apply Br.tt | apply Br.ff | apply Br.no)
        | ((with_reducible apply Br.t); · assumption)
        | ((with_reducible apply Br.f); · assumption)
        | ((with_reducible apply Br.dt); · exact ab_known)
        | ((with_reducible apply Br.df); · exact ab_known)
        | (with_reducible first | refine Br.dec (fun hc => ?_) (fun hc => ?_) | refine Br.mk (fun hc => ?_) (fun hc => ?_))
        | (refine PreP.mk hp1 ?_)
        | (refine PreP.mk hp2 ?_)
        | (refine PreP.mk hp3 ?_)
        | ((with_reducible apply DrawG.mk [false, false, false, false, false, false, false, true, false, false, false, false, false, true]); · decide +kernel)
        | ((with_reducible first | apply NeedRows.mk | apply NeedMap.mk | apply NeedIter.mk); · exact ab_look)
        | ((with_reducible apply NeedLen.mk); · first | assumption | rfl)
        | ((with_reducible apply NeedRow.mk); · exact ab_lookR)
        | ((with_reducible apply DrawG.mk (List.replicate 60 false)); · decide +kernel)
        | (with_reducible first | refine NewP.mk (fun id hid => ?_) | refine NilP.mk (fun e he => ?_))
        | (with_reducible first | exact trivial | exact And.intro rfl rfl)
        | ((with_reducible apply PreP.mk); · exact ab_asked)
        | refine Exists.intro _ (PreP.mk (bytesOf_lst _) ?_)
        | refine PreP.mk (lenD_lst _) ?_
        | (with_reducible first | refine PreP.mk ?_ ?_ | refine BothP.mk ?_ ?_)
        | ((with_reducible apply AncOr.anc); · decide +kernel)
        | with_reducible refine AncOr.go ?_)
      · show fs.length + 1 - (i : Int).toNat = (List.take (fs.length + 1 - (i : Int).toNat) (List.drop (0 + (i : Int).toNat) (fs.map rowF ++ [[.p (.str []), .p .nil, i64 0]]))).length
        first | (simp; done) | (simp; omega)
      · refine ⟨fun q hq => (hones q (List.mem_of_mem_drop (List.mem_of_mem_take hq))).1, fun q hq => (hones q (List.mem_of_mem_drop (List.mem_of_mem_take hq))).2, ?_⟩
        rw [wi, t1]
        show 0 + (i + 1) + (fs.length + 1 - (i + 1)) ≤ (fs.map rowF ++ [[.p (.str []), .p .nil, i64 0]]).length
        simp; omega
      refine NeedRow.mk (row := rowF f) (by simp only [wi, t1, t2, Nat.zero_add]; exact cp_row (by simp) hi (by rw [nth_eq]; rw [List.getElem?_append_left (by simp; omega), List.getElem?_map, hf]; rfl)) ?_
      repeat' (first
        | ((with_reducible apply Onw.mk); conv => whnf)
        | (with_reducible first | apply Br.tt | apply Br.ff | apply Br.no)
        | ((with_reducible apply Br.t); · assumption)
        | ((with_reducible apply Br.f); · assumption)
        | ((with_reducible apply Br.dt); · exact ab_known)
        | ((with_reducible apply Br.df); · exact ab_known)
        | (with_reducible first | refine Br.dec (fun hc => ?_) (fun hc => ?_) | refine Br.mk (fun hc => ?_) (fun hc => ?_))
        | ((with_reducible first | apply NeedRows.mk | apply NeedMap.mk | apply NeedIter.mk); · exact ab_look)
        | ((with_reducible apply NeedLen.mk); · first | assumption | rfl)
        | ((with_reducible apply NeedRow.mk); · exact ab_lookR)
        | ((with_reducible apply DrawG.mk (List.replicate 60 false)); · decide +kernel)
        | (with_reducible first | refine NewP.mk (fun id hid => ?_) | refine NilP.mk (fun e he => ?_))
        | (with_reducible first | exact trivial | exact And.intro rfl rfl)
        | ((with_reducible apply PreP.mk); · exact ab_asked)
        | refine Exists.intro _ (PreP.mk (bytesOf_lst _) ?_)
        | refine PreP.mk (lenD_lst _) ?_
        | (with_reducible first | refine PreP.mk ?_ ?_ | refine BothP.mk ?_ ?_)
        | ((with_reducible apply AncOr.anc); · decide +kernel)
        | with_reducible refine AncOr.go ?_)
      all_goals
        refine ⟨rfl, ?_⟩
        refine (ins_heap (by rw [setN_length]; simp; omega) (by rw [setN_length]; simp; omega)).trans ?_
        simp only [wi, t1, t2, Nat.zero_add]
        unfold insHeap insRows
        rw [hpos, ← hl2]
        exact congrArg (fun L => setN (setN (H ++ [Ab.Obj.rows [[.p (.str name), .own bid 1 0 nb none, i64 kept]]]) fid .gone ++ [.rows L]) r (rRow id2 (fs.length + 1) q s p o)) (ins_eq2 (rs := fs.map rowF) (z := [.p (.str []), .p .nil, i64 0]) (x := [.p (.str name), .own bid 1 0 nb none, i64 kept]) (k := i) (n := fs.length) (by simp) hi)
  · have hc1 : ¬ (i : Int) < (fs.length : Int) := by omega
    have hpos := pos_none (fun k g hg => hb k g (by have := (List.getElem?_eq_some_iff.1 hg).1; omega) hg)
    rw [show fs.length = i by omega] at hpos
    repeat' (first
      | ((with_reducible apply Onw.mk); conv => whnf)
      | (with_reducible first | apply Br.tt | apply Br.ff | apply Br.no)
      | ((with_reducible apply Br.t); · assumption)
      | ((with_reducible apply Br.f); · assumption)
      | ((with_reducible apply Br.dt); · exact ab_known)
      | ((with_reducible apply Br.df); · exact ab_known)
      | (with_reducible first | refine Br.dec (fun hc => ?_) (fun hc => ?_) | refine Br.mk (fun hc => ?_) (fun hc => ?_))
      | ((with_reducible first | apply NeedRows.mk | apply NeedMap.mk | apply NeedIter.mk); · exact ab_look)
      | ((with_reducible apply NeedLen.mk); · first | assumption | rfl)
      | ((with_reducible apply NeedRow.mk); · exact ab_lookR)
      | ((with_reducible apply DrawG.mk (List.replicate 60 false)); · decide +kernel)
      | (with_reducible first | refine NewP.mk (fun id hid => ?_) | refine NilP.mk (fun e he => ?_))
      | (with_reducible first | exact trivial | exact And.intro rfl rfl)
      | ((with_reducible apply PreP.mk); · exact ab_asked)
      | refine Exists.intro _ (PreP.mk (bytesOf_lst _) ?_)
      | refine PreP.mk (lenD_lst _) ?_
      | (with_reducible first | refine PreP.mk ?_ ?_ | refine BothP.mk ?_ ?_)
      | ((with_reducible apply AncOr.anc); · decide +kernel)
      | with_reducible refine AncOr.go ?_)
    refine NewSlice.lst [[.str [], .nil, .int .i64 0]] rfl rfl (fun q hq => by simp at hq; subst hq; rfl) ?_
    have hne2 : fid ≠ r := fun e => hne e.symm
    have hb2 : id ≠ fid := by omega
    have hb3 : id ≠ r := by omega
    have hb4 : fid ≠ id := by omega
    have hb5 : r ≠ id := by omega
    have wi : IntKind.i64.wrap ((i : Int) + 1) = (i : Int) + 1 := wrap64 (by omega) (by omega)
    have hdt : (List.take fs.length (List.drop 0 (fs.map rowF))) = fs.map rowF := by rw [List.drop_zero, List.take_of_length_le (by simp)]
    repeat' (first
      | ((with_reducible apply Onw.mk); conv => whnf)
      | (with_reducible first | apply Br.tt | apply Br.ff | apply Br.no)
      | ((with_reducible apply Br.t); · assumption)
      | ((with_reducible apply Br.f); · assumption)
      | ((with_reducible apply Br.dt); · exact ab_known)
      | ((with_reducible apply Br.df); · exact ab_known)
      | (with_reducible first | refine Br.dec (fun hc => ?_) (fun hc => ?_) | refine Br.mk (fun hc => ?_) (fun hc => ?_))
      | ((with_reducible first | apply NeedRows.mk | apply NeedMap.mk | apply NeedIter.mk); · exact ab_look)
      | ((with_reducible apply NeedLen.mk); · first | assumption | rfl)
      | ((with_reducible apply NeedRow.mk); · exact ab_lookR)
      | ((with_reducible apply DrawG.mk (List.replicate 60 false)); · decide +kernel)
      | (with_reducible first | refine NewP.mk (fun id hid => ?_) | refine NilP.mk (fun e he => ?_))
      | (with_reducible first | exact trivial | exact And.intro rfl rfl)
      | ((with_reducible apply PreP.mk); · exact ab_asked)
      | refine Exists.intro _ (PreP.mk (bytesOf_lst _) ?_)
      | refine PreP.mk (lenD_lst _) ?_
      | (with_reducible first | refine PreP.mk ?_ ?_ | refine BothP.mk ?_ ?_)
      | ((with_reducible apply AncOr.anc); · decide +kernel)
      | with_reducible refine AncOr.go ?_)
    · exact ⟨(by show (fs.length + 1) * 48 ≤ maxRoom; unfold maxRoom; omega), (by show fs.length + 1 ≤ maxS; unfold maxS; omega), (fun q hq => by simp at hq; subst hq; rfl), (fun q hq => by simp at hq; subst hq; intro d hd; simp at hd; rcases hd with rfl | rfl | rfl <;> rfl), (by simp)⟩
    refine AppTo.new (fun id2 hid2 => ?_)
    rw [hdt]
    have hl2 : id2 = H.length + 1 := by rw [hid2]; simp
    have hb6 : r ≠ id2 := by omega
    have hb7 : id2 ≠ r := by omega
    have hb8 : id2 ≠ id := by omega
    have hp1 : (0 : Int) ≤ IntKind.i64.wrap ((i : Int) + 1) ∧ IntKind.i64.wrap ((i : Int) + 1) ≤ ((fs.length + 1 : Nat) : Int) ∧ ((fs.length + 1 : Nat) : Int) ≤ ((fs.length + 1 : Nat) : Int) := by rw [wi]; omega
    have hp2 : (0 : Int) ≤ (i : Int) ∧ (i : Int) ≤ ((fs.length + 1 : Nat) : Int) ∧ ((fs.length + 1 : Nat) : Int) ≤ ((fs.length + 1 : Nat) : Int) := by omega
    have hones : ∀ q ∈ fs.map rowF ++ [[.p (.str []), .p .nil, i64 0]], q.length = 3 ∧ ∀ d ∈ q, isOne d = true := fun q hq => by
      rcases List.mem_append.1 hq with hq | hq
      · obtain ⟨g, _, rfl⟩ := List.mem_map.1 hq; exact ⟨rfl, fun d hd => by simp [rowF] at hd; rcases hd with rfl | rfl | rfl <;> rfl⟩
      · simp at hq; subst hq; exact ⟨rfl, fun d hd => by simp at hd; rcases hd with rfl | rfl | rfl <;> rfl⟩
    have t1 : ((i : Int) + 1).toNat = i + 1 := by omega
    have t2 : (i : Int).toNat = i := Int.toNat_natCast i
    have hp3 : (0 : Int) ≤ (i : Int) ∧ (i : Int) < ((fs.length + 1 : Nat) : Int) := by omega
    repeat' (first
      | ((with_reducible apply Onw.mk); conv => whnf)
      | (with_reducible first | apply Br.tt | apply Br.ff | apply Br.no)
      | ((with_reducible apply Br.t); · assumption)
      | ((with_reducible apply Br.f); · assumption)
      | ((with_reducible apply Br.dt); · exact ab_known)
      | ((with_reducible apply Br.df); · exact ab_known)
      | (with_reducible first | refine Br.dec (fun hc => ?_) (fun hc => ?_) | refine Br.mk (fun hc => ?_) (fun hc => ?_))
      | (refine PreP.mk hp1 ?_)
      | (refine PreP.mk hp2 ?_)
      | (refine PreP.mk hp3 ?_)
      | ((with_reducible apply DrawG.mk [false, false, false, false, false, false, false, true, false, false, false, false, false, true]); · decide +kernel)
      | ((with_reducible first | apply NeedRows.mk | apply NeedMap.mk | apply NeedIter.mk); · exact ab_look)
      | ((with_reducible apply NeedLen.mk); · first | assumption | rfl)
      | ((with_reducible apply NeedRow.mk); · exact ab_lookR)
      | ((with_reducible apply DrawG.mk (List.replicate 60 false)); · decide +kernel)
      | (with_reducible first | refine NewP.mk (fun id hid => ?_) | refine NilP.mk (fun e he => ?_))
      | (with_reducible first | exact trivial | exact And.intro rfl rfl)
      | ((with_reducible apply PreP.mk); · exact ab_asked)
      | refine Exists.intro _ (PreP.mk (bytesOf_lst _) ?_)
      | refine PreP.mk (lenD_lst _) ?_
      | (with_reducible first | refine PreP.mk ?_ ?_ | refine BothP.mk ?_ ?_)
      | ((with_reducible apply AncOr.anc); · decide +kernel)
      | with_reducible refine AncOr.go ?_)
    · show fs.length + 1 - (i : Int).toNat = (List.take (fs.length + 1 - (i : Int).toNat) (List.drop (0 + (i : Int).toNat) (fs.map rowF ++ [[.p (.str []), .p .nil, i64 0]]))).length
      first | (simp; done) | (simp; omega)
    · refine ⟨fun q hq => (hones q (List.mem_of_mem_drop (List.mem_of_mem_take hq))).1, fun q hq => (hones q (List.mem_of_mem_drop (List.mem_of_mem_take hq))).2, ?_⟩
      rw [wi, t1]
      show 0 + (i + 1) + (fs.length + 1 - (i + 1)) ≤ (fs.map rowF ++ [[.p (.str []), .p .nil, i64 0]]).length
      simp; omega
    refine NeedRow.mk (row := [.p (.str []), .p .nil, i64 0]) (by simp only [wi, t1, t2, Nat.zero_add]; exact cp_row (by simp) hi (by rw [nth_eq]; rw [List.getElem?_append_right (by simp; omega), List.length_map, show i - fs.length = 0 by omega]; rfl)) ?_
    repeat' (first
      | ((with_reducible apply Onw.mk); conv => whnf)
      | (with_reducible first | apply Br.tt | apply Br.ff | apply Br.no)
      | ((with_reducible apply Br.t); · assumption)
      | ((with_reducible apply Br.f); · assumption)
      | ((with_reducible apply Br.dt); · exact ab_known)
      | ((with_reducible apply Br.df); · exact ab_known)
      | (with_reducible first | refine Br.dec (fun hc => ?_) (fun hc => ?_) | refine Br.mk (fun hc => ?_) (fun hc => ?_))
      | ((with_reducible first | apply NeedRows.mk | apply NeedMap.mk | apply NeedIter.mk); · exact ab_look)
      | ((with_reducible apply NeedLen.mk); · first | assumption | rfl)
      | ((with_reducible apply NeedRow.mk); · exact ab_lookR)
      | ((with_reducible apply DrawG.mk (List.replicate 60 false)); · decide +kernel)
      | (with_reducible first | refine NewP.mk (fun id hid => ?_) | refine NilP.mk (fun e he => ?_))
      | (with_reducible first | exact trivial | exact And.intro rfl rfl)
      | ((with_reducible apply PreP.mk); · exact ab_asked)
      | refine Exists.intro _ (PreP.mk (bytesOf_lst _) ?_)
      | refine PreP.mk (lenD_lst _) ?_
      | (with_reducible first | refine PreP.mk ?_ ?_ | refine BothP.mk ?_ ?_)
      | ((with_reducible apply AncOr.anc); · decide +kernel)
      | with_reducible refine AncOr.go ?_)
    all_goals
      refine ⟨rfl, ?_⟩
      refine (ins_heap (by rw [setN_length]; simp; omega) (by rw [setN_length]; simp; omega)).trans ?_
      simp only [wi, t1, t2, Nat.zero_add]
      unfold insHeap insRows
      rw [hpos, ← hl2]
      exact congrArg (fun L => setN (setN (H ++ [Ab.Obj.rows [[.p (.str name), .own bid 1 0 nb none, i64 kept]]]) fid .gone ++ [.rows L]) r (rRow id2 (fs.length + 1) q s p o)) (ins_eq2 (rs := fs.map rowF) (z := [.p (.str []), .p .nil, i64 0]) (x := [.p (.str name), .own bid 1 0 nb none, i64 kept]) (k := i) (n := fs.length) (by simp) hi)

end Go.Proofs.Ytanknokhbfijdaa
