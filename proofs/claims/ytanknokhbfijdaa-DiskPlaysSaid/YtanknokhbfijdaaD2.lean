/- What functions of the disk, and of the laws over it, do. Conditions: those that each theorem names. -/
import Derived.Test.YtanknokhbfijdaaD1
set_option linter.unusedVariables false
set_option linter.unusedSimpArgs false
namespace Go.Proofs.Ytanknokhbfijdaa
open Go.Ab
set_option maxRecDepth 100000
set_option maxHeartbeats 1000000
attribute [local irreducible] Run CallOK DetCall Br PreP BothP AncOr Onw NeedRows NeedMap NeedRow NeedLen NilP NeedIter RoundP EntryP EqP OptP NewP NewSlice NewMade AppTo DrawG anc drawB

theorem s15 (H : Heap) (q : Int) : Ab.Spec Try.prog 15 [i64 q] H (fun r H' => H' = H ++ [.map [] [] 0] ++ [.rows [[i64 0, i64 0, i64 q, .mp H.length]]] ∧ r = .ptr (H.length + 1) 0 0) := by
  refine Ab.Spec.walk hm Try.func15 (by kernel_rfl) 60 ?_
  repeat' (first
    | ((with_reducible apply Onw.mk); conv => whnf)
    | (with_reducible first | apply Br.tt | apply Br.ff | apply Br.no)
    | ((with_reducible apply Br.t); · assumption)
    | ((with_reducible apply Br.f); · assumption)
    | ((with_reducible apply Br.dt); · exact ab_known)
    | ((with_reducible apply Br.df); · exact ab_known)
    | (with_reducible first | refine Br.dec (fun hc => ?_) (fun hc => ?_) | refine Br.mk (fun hc => ?_) (fun hc => ?_))
    | ((with_reducible first | apply NeedRows.mk | apply NeedMap.mk | apply NeedIter.mk); · exact ab_look)
    | ((with_reducible apply NeedLen.mk); · first | assumption | rfl)
    | ((with_reducible apply NeedRow.mk); · exact ab_lookR)
    | ((with_reducible apply DrawG.mk (List.replicate 60 false)); · decide +kernel)
    | (with_reducible first | refine NewP.mk (fun id hid => ?_) | refine NilP.mk (fun e he => ?_))
    | (with_reducible first | exact trivial | exact And.intro rfl rfl)
    | ((with_reducible apply PreP.mk); · exact ab_asked)
    | refine Exists.intro _ (PreP.mk (bytesOf_lst _) ?_)
    | refine PreP.mk (lenD_lst _) ?_
    | (with_reducible first | refine PreP.mk ?_ ?_ | refine BothP.mk ?_ ?_)
    | ((with_reducible apply AncOr.anc); · decide +kernel)
    | with_reducible refine AncOr.go ?_)
  rename_i id1 hid1
  subst hid1
  subst hid
  exact ⟨rfl, by simp [mkRes]⟩

theorem s24 (H : Heap) (id : Nat) (s o : Int) (rest : List D) (h : nth H id = some (.rows [i64 s :: i64 o :: rest])) : Ab.Spec Try.prog 24 [.ptr id 0 0] H (fun r H' => H' = H ∧ r = i64 s) := by
  refine Ab.Spec.walk hm Try.func24 (by kernel_rfl) 60 ?_
  repeat' (first
    | ((with_reducible apply Onw.mk); conv => whnf)
    | (with_reducible first | apply Br.tt | apply Br.ff | apply Br.no)
    | ((with_reducible apply Br.t); · assumption)
    | ((with_reducible apply Br.f); · assumption)
    | ((with_reducible apply Br.dt); · exact ab_known)
    | ((with_reducible apply Br.df); · exact ab_known)
    | (with_reducible first | refine Br.dec (fun hc => ?_) (fun hc => ?_) | refine Br.mk (fun hc => ?_) (fun hc => ?_))
    | ((with_reducible first | apply NeedRows.mk | apply NeedMap.mk | apply NeedIter.mk); · exact ab_look)
    | ((with_reducible apply NeedLen.mk); · first | assumption | rfl)
    | ((with_reducible apply NeedRow.mk); · exact ab_lookR)
    | ((with_reducible apply DrawG.mk (List.replicate 60 false)); · decide +kernel)
    | (with_reducible first | refine NewP.mk (fun id hid => ?_) | refine NilP.mk (fun e he => ?_))
    | (with_reducible first | exact trivial | exact And.intro rfl rfl)
    | ((with_reducible apply PreP.mk); · exact ab_asked)
    | refine Exists.intro _ (PreP.mk (bytesOf_lst _) ?_)
    | refine PreP.mk (lenD_lst _) ?_
    | (with_reducible first | refine PreP.mk ?_ ?_ | refine BothP.mk ?_ ?_)
    | ((with_reducible apply AncOr.anc); · decide +kernel)
    | with_reducible refine AncOr.go ?_)

/-- What Power lets the step be. -/
def powerAt (s o at0 : Int) : Int := bif offB s o then o else if at0 ≤ 0 then 0 else s + (if 1099511627776 < at0 then 1099511627776 else at0)
theorem s22 (H : Heap) (id : Nat) (s o at0 : Int) (a b : D) (h : nth H id = some (.rows [[i64 s, i64 o, a, b]])) (hs : 0 ≤ s) (hs' : s < 4611686018427387904) :
    Ab.Spec Try.prog 22 [.ptr id 0 0, i64 at0] H (fun r H' => H' = setN H id (.rows [[i64 s, i64 (powerAt s o at0), a, b]]) ∧ r = .tup []) := by
  refine Ab.Spec.walk hm Try.func22 (by kernel_rfl) 60 ?_
  repeat' (first
    | ((with_reducible apply Onw.mk); conv => whnf)
    | (with_reducible first | apply Br.tt | apply Br.ff | apply Br.no)
    | ((with_reducible apply Br.t); · assumption)
    | ((with_reducible apply Br.f); · assumption)
    | ((with_reducible apply Br.dt); · exact ab_known)
    | ((with_reducible apply Br.df); · exact ab_known)
    | (with_reducible first | refine Br.dec (fun hc => ?_) (fun hc => ?_) | refine Br.mk (fun hc => ?_) (fun hc => ?_))
    | ((with_reducible first | apply NeedRows.mk | apply NeedMap.mk | apply NeedIter.mk); · exact ab_look)
    | ((with_reducible apply NeedLen.mk); · first | assumption | rfl)
    | ((with_reducible apply NeedRow.mk); · exact ab_lookR)
    | ((with_reducible apply DrawG.mk (List.replicate 60 false)); · decide +kernel)
    | (with_reducible first | refine NewP.mk (fun id hid => ?_) | refine NilP.mk (fun e he => ?_))
    | (with_reducible first | exact trivial | exact And.intro rfl rfl)
    | ((with_reducible apply PreP.mk); · exact ab_asked)
    | refine Exists.intro _ (PreP.mk (bytesOf_lst _) ?_)
    | refine PreP.mk (lenD_lst _) ?_
    | (with_reducible first | refine PreP.mk ?_ ?_ | refine BothP.mk ?_ ?_)
    | ((with_reducible apply AncOr.anc); · decide +kernel)
    | with_reducible refine AncOr.go ?_)
  refine CallOK.go (CallOK.of_spec (s50 _ _ s o [a, b] h)) (fun r H' hr => ?_)
  obtain ⟨rfl, rfl⟩ := hr
  repeat' (first
    | ((with_reducible apply Onw.mk); conv => whnf)
    | (with_reducible first | apply Br.tt | apply Br.ff | apply Br.no)
    | ((with_reducible apply Br.t); · assumption)
    | ((with_reducible apply Br.f); · assumption)
    | ((with_reducible apply Br.dt); · exact ab_known)
    | ((with_reducible apply Br.df); · exact ab_known)
    | (with_reducible first | refine Br.dec (fun hc => ?_) (fun hc => ?_) | refine Br.mk (fun hc => ?_) (fun hc => ?_))
    | ((with_reducible first | apply NeedRows.mk | apply NeedMap.mk | apply NeedIter.mk); · exact ab_look)
    | ((with_reducible apply NeedLen.mk); · first | assumption | rfl)
    | ((with_reducible apply NeedRow.mk); · exact ab_lookR)
    | ((with_reducible apply DrawG.mk (List.replicate 60 false)); · decide +kernel)
    | (with_reducible first | refine NewP.mk (fun id hid => ?_) | refine NilP.mk (fun e he => ?_))
    | (with_reducible first | exact trivial | exact And.intro rfl rfl)
    | ((with_reducible apply PreP.mk); · exact ab_asked)
    | refine Exists.intro _ (PreP.mk (bytesOf_lst _) ?_)
    | refine PreP.mk (lenD_lst _) ?_
    | (with_reducible first | refine PreP.mk ?_ ?_ | refine BothP.mk ?_ ?_)
    | ((with_reducible apply AncOr.anc); · decide +kernel)
    | with_reducible refine AncOr.go ?_)
  · exact ⟨by simp [powerAt, hc, setN_self h], rfl⟩
  · rename_i h0
    refine ⟨?_, rfl⟩
    simp only [powerAt, h0, cond_false, if_pos hc]
    rfl
  · rename_i h0
    refine ⟨?_, rfl⟩
    simp only [powerAt, h0, cond_false, if_neg hc]
    rw [wrap64 (by split <;> omega) (by split <;> omega)]
    rfl

def errR (k : Dk) (name : List UInt8) : Int := bif offB (k.steps + 1) k.off then 212 else match lookF k name with
  | some _ => 0
  | none => 210
/-- The heap behind Sync. -/
def syncH (H : Heap) (d : Nat) (k : Dk) (name : List UInt8) : Heap :=
  bif offB (k.steps + 1) k.off then setN H d (dRow { k with steps := k.steps + 1 }) else match lookF k name with
    | some f => setN (setN H d (dRow { k with steps := k.steps + 1 })) f.fid (.rows [[f.bd, i64 f.bytes.length]])
    | none => setN H d (dRow { k with steps := k.steps + 1 })
theorem lookF_mem {k : Dk} {name : List UInt8} {f : Fl} (h : lookF k name = some f) : f ∈ k.files := List.mem_of_find?_eq_some h
theorem DiskAt.ne_d {H : Heap} {d : Nat} {k : Dk} (h : DiskAt H d k) {f : Fl} (hf : f ∈ k.files) : d ≠ f.fid := by
  have h1 := h.ids
  simp only [List.nodup_cons, List.mem_cons, not_or] at h1
  exact fun e => h1.1.2 (by rw [e]; exact List.mem_flatMap.2 ⟨f, hf, List.mem_cons_self⟩)
theorem DiskAt.ne_m {H : Heap} {d : Nat} {k : Dk} (h : DiskAt H d k) {f : Fl} (hf : f ∈ k.files) : k.mid ≠ f.fid := by
  have h1 := h.ids
  simp only [List.nodup_cons, List.mem_cons, not_or] at h1
  exact fun e => h1.2.1 (by rw [e]; exact List.mem_flatMap.2 ⟨f, hf, List.mem_cons_self⟩)

theorem s17 (H : Heap) (d : Nat) (k : Dk) (name : List UInt8) (h : DiskAt H d k) (hs : 0 ≤ k.steps) (hs' : k.steps < 4611686018427387904) :
    Ab.Spec Try.prog 17 [.ptr d 0 0, .p (.str name)] H (fun r H' => H' = syncH H d k name ∧ r = i64 (errR k name)) := by
  refine Ab.Spec.walk hm Try.func17 (by kernel_rfl) 100 ?_
  repeat' (first
    | ((with_reducible apply Onw.mk); conv => whnf)
    | (with_reducible first | apply Br.tt | apply Br.ff | apply Br.no)
    | ((with_reducible apply Br.t); · assumption)
    | ((with_reducible apply Br.f); · assumption)
    | ((with_reducible apply Br.dt); · exact ab_known)
    | ((with_reducible apply Br.df); · exact ab_known)
    | (with_reducible first | refine Br.dec (fun hc => ?_) (fun hc => ?_) | refine Br.mk (fun hc => ?_) (fun hc => ?_))
    | ((with_reducible first | apply NeedRows.mk | apply NeedMap.mk | apply NeedIter.mk); · exact ab_look)
    | ((with_reducible apply NeedLen.mk); · first | assumption | rfl)
    | ((with_reducible apply NeedRow.mk); · exact ab_lookR)
    | ((with_reducible apply DrawG.mk (List.replicate 60 false)); · decide +kernel)
    | (with_reducible first | refine NewP.mk (fun id hid => ?_) | refine NilP.mk (fun e he => ?_))
    | (with_reducible first | exact trivial | exact And.intro rfl rfl)
    | ((with_reducible apply PreP.mk); · exact ab_asked)
    | refine Exists.intro _ (PreP.mk (bytesOf_lst _) ?_)
    | refine PreP.mk (lenD_lst _) ?_
    | (with_reducible first | refine PreP.mk ?_ ?_ | refine BothP.mk ?_ ?_)
    | ((with_reducible apply AncOr.anc); · decide +kernel)
    | with_reducible refine AncOr.go ?_)
  refine CallOK.go (CallOK.of_spec (s48 H d k name h hs hs')) (fun r H' hr => ?_)
  obtain ⟨rfl, rfl⟩ := hr
  unfold stepR
  cases ho : offB (k.steps + 1) k.off with
  | true =>
    repeat' (first
      | ((with_reducible apply Onw.mk); conv => whnf)
      | (with_reducible first | apply Br.tt | apply Br.ff | apply Br.no)
      | ((with_reducible apply Br.t); · assumption)
      | ((with_reducible apply Br.f); · assumption)
      | ((with_reducible apply Br.dt); · exact ab_known)
      | ((with_reducible apply Br.df); · exact ab_known)
      | (with_reducible first | refine Br.dec (fun hc => ?_) (fun hc => ?_) | refine Br.mk (fun hc => ?_) (fun hc => ?_))
      | ((with_reducible first | apply NeedRows.mk | apply NeedMap.mk | apply NeedIter.mk); · exact ab_look)
      | ((with_reducible apply NeedLen.mk); · first | assumption | rfl)
      | ((with_reducible apply NeedRow.mk); · exact ab_lookR)
      | ((with_reducible apply DrawG.mk (List.replicate 60 false)); · decide +kernel)
      | (with_reducible first | refine NewP.mk (fun id hid => ?_) | refine NilP.mk (fun e he => ?_))
      | (with_reducible first | exact trivial | exact And.intro rfl rfl)
      | ((with_reducible apply PreP.mk); · exact ab_asked)
      | refine Exists.intro _ (PreP.mk (bytesOf_lst _) ?_)
      | refine PreP.mk (lenD_lst _) ?_
      | (with_reducible first | refine PreP.mk ?_ ?_ | refine BothP.mk ?_ ?_)
      | ((with_reducible apply AncOr.anc); · decide +kernel)
      | with_reducible refine AncOr.go ?_)
    exact ⟨by simp [syncH, ho], by simp [errR, ho]; rfl⟩
  | false =>
    cases hl : lookF k name with
    | none =>
      repeat' (first
        | ((with_reducible apply Onw.mk); conv => whnf)
        | (with_reducible first | apply Br.tt | apply Br.ff | apply Br.no)
        | ((with_reducible apply Br.t); · assumption)
        | ((with_reducible apply Br.f); · assumption)
        | ((with_reducible apply Br.dt); · exact ab_known)
        | ((with_reducible apply Br.df); · exact ab_known)
        | (with_reducible first | refine Br.dec (fun hc => ?_) (fun hc => ?_) | refine Br.mk (fun hc => ?_) (fun hc => ?_))
        | ((with_reducible first | apply NeedRows.mk | apply NeedMap.mk | apply NeedIter.mk); · exact ab_look)
        | ((with_reducible apply NeedLen.mk); · first | assumption | rfl)
        | ((with_reducible apply NeedRow.mk); · exact ab_lookR)
        | ((with_reducible apply DrawG.mk (List.replicate 60 false)); · decide +kernel)
        | (with_reducible first | refine NewP.mk (fun id hid => ?_) | refine NilP.mk (fun e he => ?_))
        | (with_reducible first | exact trivial | exact And.intro rfl rfl)
        | ((with_reducible apply PreP.mk); · exact ab_asked)
        | refine Exists.intro _ (PreP.mk (bytesOf_lst _) ?_)
        | refine PreP.mk (lenD_lst _) ?_
        | (with_reducible first | refine PreP.mk ?_ ?_ | refine BothP.mk ?_ ?_)
        | ((with_reducible apply AncOr.anc); · decide +kernel)
        | with_reducible refine AncOr.go ?_)
      exact ⟨by simp [syncH, ho, hl], by simp [errR, ho, hl]; rfl⟩
    | some f =>
      have hf := lookF_mem hl
      have hfile := h.file f hf
      have hfr := hfile.1
      have hlen := lenD_bytes hfile.2
      have hne := h.ne_d hf
      repeat' (first
        | ((with_reducible apply Onw.mk); conv => whnf)
        | (with_reducible first | apply Br.tt | apply Br.ff | apply Br.no)
        | ((with_reducible apply Br.t); · assumption)
        | ((with_reducible apply Br.f); · assumption)
        | ((with_reducible apply Br.dt); · exact ab_known)
        | ((with_reducible apply Br.df); · exact ab_known)
        | (with_reducible first | refine Br.dec (fun hc => ?_) (fun hc => ?_) | refine Br.mk (fun hc => ?_) (fun hc => ?_))
        | ((with_reducible first | apply NeedRows.mk | apply NeedMap.mk | apply NeedIter.mk); · exact ab_look)
        | ((with_reducible apply NeedLen.mk); · first | assumption | rfl)
        | ((with_reducible apply NeedRow.mk); · exact ab_lookR)
        | ((with_reducible apply DrawG.mk (List.replicate 60 false)); · decide +kernel)
        | (with_reducible first | refine NewP.mk (fun id hid => ?_) | refine NilP.mk (fun e he => ?_))
        | (with_reducible first | exact trivial | exact And.intro rfl rfl)
        | ((with_reducible apply PreP.mk); · exact ab_asked)
        | refine Exists.intro _ (PreP.mk (bytesOf_lst _) ?_)
        | refine PreP.mk (lenD_lst _) ?_
        | (with_reducible first | refine PreP.mk ?_ ?_ | refine BothP.mk ?_ ?_)
        | ((with_reducible apply AncOr.anc); · decide +kernel)
        | with_reducible refine AncOr.go ?_)
      exact ⟨by simp [syncH, ho, hl]; rfl, by simp [errR, ho, hl]; rfl⟩

def stepH (H : Heap) (d : Nat) (k : Dk) : Heap := setN H d (dRow { k with steps := k.steps + 1 })
def delEs (k : Dk) (name : List UInt8) : List (P × D) := delE (k.files.map entF) (.str name)
def delBs (k : Dk) (name : List UInt8) : List Nat := delB (k.files.map entF) (.str name) k.bs
/-- The heap behind Remove. -/
def removeH (H : Heap) (d : Nat) (k : Dk) (name : List UInt8) : Heap :=
  bif offB (k.steps + 1) k.off then stepH H d k else match lookF k name with
    | some _ => setN (stepH H d k) k.mid (.map (delEs k name) (delBs k name) k.ck)
    | none => stepH H d k
theorem keysOk_files (k : Dk) : keysOk .str (k.files.map entF) := keysOk_str k.files (·.name) (fun f => .ptr f.fid 0 0)
theorem s21 (H : Heap) (d : Nat) (k : Dk) (name : List UInt8) (h : DiskAt H d k) (hs : 0 ≤ k.steps) (hs' : k.steps < 4611686018427387904) :
    Ab.Spec Try.prog 21 [.ptr d 0 0, .p (.str name)] H (fun r H' => H' = removeH H d k name ∧ r = i64 (errR k name)) := by
  refine Ab.Spec.walk hm Try.func21 (by kernel_rfl) 100 ?_
  repeat' (first
    | ((with_reducible apply Onw.mk); conv => whnf)
    | (with_reducible first | apply Br.tt | apply Br.ff | apply Br.no)
    | ((with_reducible apply Br.t); · assumption)
    | ((with_reducible apply Br.f); · assumption)
    | ((with_reducible apply Br.dt); · exact ab_known)
    | ((with_reducible apply Br.df); · exact ab_known)
    | (with_reducible first | refine Br.dec (fun hc => ?_) (fun hc => ?_) | refine Br.mk (fun hc => ?_) (fun hc => ?_))
    | ((with_reducible first | apply NeedRows.mk | apply NeedMap.mk | apply NeedIter.mk); · exact ab_look)
    | ((with_reducible apply NeedLen.mk); · first | assumption | rfl)
    | ((with_reducible apply NeedRow.mk); · exact ab_lookR)
    | ((with_reducible apply DrawG.mk (List.replicate 60 false)); · decide +kernel)
    | (with_reducible first | refine NewP.mk (fun id hid => ?_) | refine NilP.mk (fun e he => ?_))
    | (with_reducible first | exact trivial | exact And.intro rfl rfl)
    | ((with_reducible apply PreP.mk); · exact ab_asked)
    | refine Exists.intro _ (PreP.mk (bytesOf_lst _) ?_)
    | refine PreP.mk (lenD_lst _) ?_
    | (with_reducible first | refine PreP.mk ?_ ?_ | refine BothP.mk ?_ ?_)
    | ((with_reducible apply AncOr.anc); · decide +kernel)
    | with_reducible refine AncOr.go ?_)
  refine CallOK.go (CallOK.of_spec (s48 H d k name h hs hs')) (fun r H' hr => ?_)
  obtain ⟨rfl, rfl⟩ := hr
  unfold stepR
  have h2 := h.map
  have hne : d ≠ k.mid := by have := h.ids; simp at this; exact this.1.1
  have hk : nth (setN H d (dRow { k with steps := k.steps + 1 })) d = some (.rows [[i64 (k.steps + 1), i64 k.off, i64 k.quota, .mp k.mid]]) := nth_setN_same h.row
  cases ho : offB (k.steps + 1) k.off with
  | true =>
    repeat' (first
      | ((with_reducible apply Onw.mk); conv => whnf)
      | (with_reducible first | apply Br.tt | apply Br.ff | apply Br.no)
      | ((with_reducible apply Br.t); · assumption)
      | ((with_reducible apply Br.f); · assumption)
      | ((with_reducible apply Br.dt); · exact ab_known)
      | ((with_reducible apply Br.df); · exact ab_known)
      | (with_reducible first | refine Br.dec (fun hc => ?_) (fun hc => ?_) | refine Br.mk (fun hc => ?_) (fun hc => ?_))
      | ((with_reducible first | apply NeedRows.mk | apply NeedMap.mk | apply NeedIter.mk); · exact ab_look)
      | ((with_reducible apply NeedLen.mk); · first | assumption | rfl)
      | ((with_reducible apply NeedRow.mk); · exact ab_lookR)
      | ((with_reducible apply DrawG.mk (List.replicate 60 false)); · decide +kernel)
      | (with_reducible first | refine NewP.mk (fun id hid => ?_) | refine NilP.mk (fun e he => ?_))
      | (with_reducible first | exact trivial | exact And.intro rfl rfl)
      | ((with_reducible apply PreP.mk); · exact ab_asked)
      | refine Exists.intro _ (PreP.mk (bytesOf_lst _) ?_)
      | refine PreP.mk (lenD_lst _) ?_
      | (with_reducible first | refine PreP.mk ?_ ?_ | refine BothP.mk ?_ ?_)
      | ((with_reducible apply AncOr.anc); · decide +kernel)
      | with_reducible refine AncOr.go ?_)
    exact ⟨by simp [removeH, stepH, ho], by simp [errR, ho]; rfl⟩
  | false =>
    cases hl : lookF k name with
    | none =>
      repeat' (first
        | ((with_reducible apply Onw.mk); conv => whnf)
        | (with_reducible first | apply Br.tt | apply Br.ff | apply Br.no)
        | ((with_reducible apply Br.t); · assumption)
        | ((with_reducible apply Br.f); · assumption)
        | ((with_reducible apply Br.dt); · exact ab_known)
        | ((with_reducible apply Br.df); · exact ab_known)
        | (with_reducible first | refine Br.dec (fun hc => ?_) (fun hc => ?_) | refine Br.mk (fun hc => ?_) (fun hc => ?_))
        | ((with_reducible first | apply NeedRows.mk | apply NeedMap.mk | apply NeedIter.mk); · exact ab_look)
        | ((with_reducible apply NeedLen.mk); · first | assumption | rfl)
        | ((with_reducible apply NeedRow.mk); · exact ab_lookR)
        | ((with_reducible apply DrawG.mk (List.replicate 60 false)); · decide +kernel)
        | (with_reducible first | refine NewP.mk (fun id hid => ?_) | refine NilP.mk (fun e he => ?_))
        | (with_reducible first | exact trivial | exact And.intro rfl rfl)
        | ((with_reducible apply PreP.mk); · exact ab_asked)
        | refine Exists.intro _ (PreP.mk (bytesOf_lst _) ?_)
        | refine PreP.mk (lenD_lst _) ?_
        | (with_reducible first | refine PreP.mk ?_ ?_ | refine BothP.mk ?_ ?_)
        | ((with_reducible apply AncOr.anc); · decide +kernel)
        | with_reducible refine AncOr.go ?_)
      exact ⟨by simp [removeH, stepH, ho, hl], by simp [errR, ho, hl]; rfl⟩
    | some f =>
      repeat' (first
        | ((with_reducible apply Onw.mk); conv => whnf)
        | (with_reducible first | apply Br.tt | apply Br.ff | apply Br.no)
        | ((with_reducible apply Br.t); · assumption)
        | ((with_reducible apply Br.f); · assumption)
        | ((with_reducible apply Br.dt); · exact ab_known)
        | ((with_reducible apply Br.df); · exact ab_known)
        | (with_reducible first | refine Br.dec (fun hc => ?_) (fun hc => ?_) | refine Br.mk (fun hc => ?_) (fun hc => ?_))
        | ((with_reducible first | apply NeedRows.mk | apply NeedMap.mk | apply NeedIter.mk); · exact ab_look)
        | ((with_reducible apply NeedLen.mk); · first | assumption | rfl)
        | ((with_reducible apply NeedRow.mk); · exact ab_lookR)
        | ((with_reducible apply DrawG.mk (List.replicate 60 false)); · decide +kernel)
        | (with_reducible first | refine NewP.mk (fun id hid => ?_) | refine NilP.mk (fun e he => ?_))
        | (with_reducible first | exact trivial | exact And.intro rfl rfl)
        | ((with_reducible apply PreP.mk); · exact ab_asked)
        | refine Exists.intro _ (PreP.mk (bytesOf_lst _) ?_)
        | refine PreP.mk (lenD_lst _) ?_
        | (with_reducible first | refine PreP.mk ?_ ?_ | refine BothP.mk ?_ ?_)
        | ((with_reducible apply AncOr.anc); · decide +kernel)
        | with_reducible refine AncOr.go ?_)
      · exact ⟨keysOk_files k, rfl⟩
      repeat' (first
        | ((with_reducible apply Onw.mk); conv => whnf)
        | (with_reducible first | apply Br.tt | apply Br.ff | apply Br.no)
        | ((with_reducible apply Br.t); · assumption)
        | ((with_reducible apply Br.f); · assumption)
        | ((with_reducible apply Br.dt); · exact ab_known)
        | ((with_reducible apply Br.df); · exact ab_known)
        | (with_reducible first | refine Br.dec (fun hc => ?_) (fun hc => ?_) | refine Br.mk (fun hc => ?_) (fun hc => ?_))
        | ((with_reducible first | apply NeedRows.mk | apply NeedMap.mk | apply NeedIter.mk); · exact ab_look)
        | ((with_reducible apply NeedLen.mk); · first | assumption | rfl)
        | ((with_reducible apply NeedRow.mk); · exact ab_lookR)
        | ((with_reducible apply DrawG.mk (List.replicate 60 false)); · decide +kernel)
        | (with_reducible first | refine NewP.mk (fun id hid => ?_) | refine NilP.mk (fun e he => ?_))
        | (with_reducible first | exact trivial | exact And.intro rfl rfl)
        | ((with_reducible apply PreP.mk); · exact ab_asked)
        | refine Exists.intro _ (PreP.mk (bytesOf_lst _) ?_)
        | refine PreP.mk (lenD_lst _) ?_
        | (with_reducible first | refine PreP.mk ?_ ?_ | refine BothP.mk ?_ ?_)
        | ((with_reducible apply AncOr.anc); · decide +kernel)
        | with_reducible refine AncOr.go ?_)
      exact ⟨by simp [removeH, stepH, ho, hl]; rfl, by simp [errR, ho, hl]; rfl⟩

def okName (l : List UInt8) : Bool := l.all (fun c => nameB c.toNat) && decide (1 ≤ l.length ∧ l.length ≤ 20)
def renameE (k : Dk) (a b : List UInt8) : Int := bif offB (k.steps + 1) k.off then 212 else match lookF k a with
  | some _ => bif okName b then 0 else 210
  | none => 210
/-- The heap behind Rename. -/
def renameH (H : Heap) (d : Nat) (k : Dk) (a b : List UInt8) : Heap :=
  bif offB (k.steps + 1) k.off then stepH H d k else match lookF k a with
    | some f => bif okName b then setN (setN (stepH H d k) k.mid (.map (delEs k a) (delBs k a) k.ck)) k.mid
        (.map (updE (delEs k a) (.str b) (.ptr f.fid 0 0)) (updB (delEs k a) (.str b) (delBs k a) k.ck) (updC (delEs k a) (.str b) k.ck)) else stepH H d k
    | none => stepH H d k
theorem keysOk_del (k : Dk) (name : List UInt8) : keysOk .str (delEs k name) := by
  unfold delEs
  have e : delE (k.files.map entF) (.str name) = (k.files.eraseP fun f => decide (name = f.name)).map entF := delE_str k.files (fun f : Fl => f.name) (fun f => .ptr f.fid 0 0) name
  rw [e]
  exact keysOk_str _ (fun f : Fl => f.name) (fun f => .ptr f.fid 0 0)
theorem s25 (H : Heap) (d : Nat) (k : Dk) (a b : List UInt8) (hb : b.length ≤ 1000) (h : DiskAt H d k) (hs : 0 ≤ k.steps) (hs' : k.steps < 4611686018427387904) :
    Ab.Spec Try.prog 25 [.ptr d 0 0, .p (.str a), .p (.str b)] H (fun r H' => H' = renameH H d k a b ∧ r = i64 (renameE k a b)) := by
  refine Ab.Spec.walk hm Try.func25 (by kernel_rfl) 100 ?_
  repeat' (first
    | ((with_reducible apply Onw.mk); conv => whnf)
    | (with_reducible first | apply Br.tt | apply Br.ff | apply Br.no)
    | ((with_reducible apply Br.t); · assumption)
    | ((with_reducible apply Br.f); · assumption)
    | ((with_reducible apply Br.dt); · exact ab_known)
    | ((with_reducible apply Br.df); · exact ab_known)
    | (with_reducible first | refine Br.dec (fun hc => ?_) (fun hc => ?_) | refine Br.mk (fun hc => ?_) (fun hc => ?_))
    | ((with_reducible first | apply NeedRows.mk | apply NeedMap.mk | apply NeedIter.mk); · exact ab_look)
    | ((with_reducible apply NeedLen.mk); · first | assumption | rfl)
    | ((with_reducible apply NeedRow.mk); · exact ab_lookR)
    | ((with_reducible apply DrawG.mk (List.replicate 60 false)); · decide +kernel)
    | (with_reducible first | refine NewP.mk (fun id hid => ?_) | refine NilP.mk (fun e he => ?_))
    | (with_reducible first | exact trivial | exact And.intro rfl rfl)
    | ((with_reducible apply PreP.mk); · exact ab_asked)
    | refine Exists.intro _ (PreP.mk (bytesOf_lst _) ?_)
    | refine PreP.mk (lenD_lst _) ?_
    | (with_reducible first | refine PreP.mk ?_ ?_ | refine BothP.mk ?_ ?_)
    | ((with_reducible apply AncOr.anc); · decide +kernel)
    | with_reducible refine AncOr.go ?_)
  refine CallOK.go (CallOK.of_spec (s48 H d k a h hs hs')) (fun r H' hr => ?_)
  obtain ⟨rfl, rfl⟩ := hr
  unfold stepR
  have h2 := h.map
  have hne : d ≠ k.mid := by have := h.ids; simp at this; exact this.1.1
  have hk : nth (setN H d (dRow { k with steps := k.steps + 1 })) d = some (.rows [[i64 (k.steps + 1), i64 k.off, i64 k.quota, .mp k.mid]]) := nth_setN_same h.row
  cases ho : offB (k.steps + 1) k.off with
  | true =>
    repeat' (first
      | ((with_reducible apply Onw.mk); conv => whnf)
      | (with_reducible first | apply Br.tt | apply Br.ff | apply Br.no)
      | ((with_reducible apply Br.t); · assumption)
      | ((with_reducible apply Br.f); · assumption)
      | ((with_reducible apply Br.dt); · exact ab_known)
      | ((with_reducible apply Br.df); · exact ab_known)
      | (with_reducible first | refine Br.dec (fun hc => ?_) (fun hc => ?_) | refine Br.mk (fun hc => ?_) (fun hc => ?_))
      | ((with_reducible first | apply NeedRows.mk | apply NeedMap.mk | apply NeedIter.mk); · exact ab_look)
      | ((with_reducible apply NeedLen.mk); · first | assumption | rfl)
      | ((with_reducible apply NeedRow.mk); · exact ab_lookR)
      | ((with_reducible apply DrawG.mk (List.replicate 60 false)); · decide +kernel)
      | (with_reducible first | refine NewP.mk (fun id hid => ?_) | refine NilP.mk (fun e he => ?_))
      | (with_reducible first | exact trivial | exact And.intro rfl rfl)
      | ((with_reducible apply PreP.mk); · exact ab_asked)
      | refine Exists.intro _ (PreP.mk (bytesOf_lst _) ?_)
      | refine PreP.mk (lenD_lst _) ?_
      | (with_reducible first | refine PreP.mk ?_ ?_ | refine BothP.mk ?_ ?_)
      | ((with_reducible apply AncOr.anc); · decide +kernel)
      | with_reducible refine AncOr.go ?_)
    exact ⟨by simp [renameH, stepH, ho], by simp [renameE, ho]; rfl⟩
  | false =>
    cases hl : lookF k a with
    | none =>
      repeat' (first
        | ((with_reducible apply Onw.mk); conv => whnf)
        | (with_reducible first | apply Br.tt | apply Br.ff | apply Br.no)
        | ((with_reducible apply Br.t); · assumption)
        | ((with_reducible apply Br.f); · assumption)
        | ((with_reducible apply Br.dt); · exact ab_known)
        | ((with_reducible apply Br.df); · exact ab_known)
        | (with_reducible first | refine Br.dec (fun hc => ?_) (fun hc => ?_) | refine Br.mk (fun hc => ?_) (fun hc => ?_))
        | ((with_reducible first | apply NeedRows.mk | apply NeedMap.mk | apply NeedIter.mk); · exact ab_look)
        | ((with_reducible apply NeedLen.mk); · first | assumption | rfl)
        | ((with_reducible apply NeedRow.mk); · exact ab_lookR)
        | ((with_reducible apply DrawG.mk (List.replicate 60 false)); · decide +kernel)
        | (with_reducible first | refine NewP.mk (fun id hid => ?_) | refine NilP.mk (fun e he => ?_))
        | (with_reducible first | exact trivial | exact And.intro rfl rfl)
        | ((with_reducible apply PreP.mk); · exact ab_asked)
        | refine Exists.intro _ (PreP.mk (bytesOf_lst _) ?_)
        | refine PreP.mk (lenD_lst _) ?_
        | (with_reducible first | refine PreP.mk ?_ ?_ | refine BothP.mk ?_ ?_)
        | ((with_reducible apply AncOr.anc); · decide +kernel)
        | with_reducible refine AncOr.go ?_)
      exact ⟨by simp [renameH, stepH, ho, hl], by simp [renameE, ho, hl]; rfl⟩
    | some f =>
      repeat' (first
        | ((with_reducible apply Onw.mk); conv => whnf)
        | (with_reducible first | apply Br.tt | apply Br.ff | apply Br.no)
        | ((with_reducible apply Br.t); · assumption)
        | ((with_reducible apply Br.f); · assumption)
        | ((with_reducible apply Br.dt); · exact ab_known)
        | ((with_reducible apply Br.df); · exact ab_known)
        | (with_reducible first | refine Br.dec (fun hc => ?_) (fun hc => ?_) | refine Br.mk (fun hc => ?_) (fun hc => ?_))
        | ((with_reducible first | apply NeedRows.mk | apply NeedMap.mk | apply NeedIter.mk); · exact ab_look)
        | ((with_reducible apply NeedLen.mk); · first | assumption | rfl)
        | ((with_reducible apply NeedRow.mk); · exact ab_lookR)
        | ((with_reducible apply DrawG.mk (List.replicate 60 false)); · decide +kernel)
        | (with_reducible first | refine NewP.mk (fun id hid => ?_) | refine NilP.mk (fun e he => ?_))
        | (with_reducible first | exact trivial | exact And.intro rfl rfl)
        | ((with_reducible apply PreP.mk); · exact ab_asked)
        | refine Exists.intro _ (PreP.mk (bytesOf_lst _) ?_)
        | refine PreP.mk (lenD_lst _) ?_
        | (with_reducible first | refine PreP.mk ?_ ?_ | refine BothP.mk ?_ ?_)
        | ((with_reducible apply AncOr.anc); · decide +kernel)
        | with_reducible refine AncOr.go ?_)
      refine CallOK.go (CallOK.of_spec (s47 b hb _)) (fun r H' hr => ?_)
      obtain ⟨rfl, rfl⟩ := hr
      change Onw _
      repeat' (first
        | ((with_reducible apply Onw.mk); conv => whnf)
        | (with_reducible first | apply Br.tt | apply Br.ff | apply Br.no)
        | ((with_reducible apply Br.t); · assumption)
        | ((with_reducible apply Br.f); · assumption)
        | ((with_reducible apply Br.dt); · exact ab_known)
        | ((with_reducible apply Br.df); · exact ab_known)
        | (with_reducible first | refine Br.dec (fun hc => ?_) (fun hc => ?_) | refine Br.mk (fun hc => ?_) (fun hc => ?_))
        | ((with_reducible first | apply NeedRows.mk | apply NeedMap.mk | apply NeedIter.mk); · exact ab_look)
        | ((with_reducible apply NeedLen.mk); · first | assumption | rfl)
        | ((with_reducible apply NeedRow.mk); · exact ab_lookR)
        | ((with_reducible apply DrawG.mk (List.replicate 60 false)); · decide +kernel)
        | (with_reducible first | refine NewP.mk (fun id hid => ?_) | refine NilP.mk (fun e he => ?_))
        | (with_reducible first | exact trivial | exact And.intro rfl rfl)
        | ((with_reducible apply PreP.mk); · exact ab_asked)
        | refine Exists.intro _ (PreP.mk (bytesOf_lst _) ?_)
        | refine PreP.mk (lenD_lst _) ?_
        | (with_reducible first | refine PreP.mk ?_ ?_ | refine BothP.mk ?_ ?_)
        | ((with_reducible apply AncOr.anc); · decide +kernel)
        | with_reducible refine AncOr.go ?_)
      · exact ⟨keysOk_files k, rfl⟩
      · exact ⟨keysOk_del k a, rfl⟩
      · have hc' : okName b = true := hc
        exact ⟨by simp [renameH, stepH, ho, hl, hc']; rfl, by simp [renameE, ho, hl, hc']; rfl⟩
      · have hc' : okName b = false := hc
        exact ⟨by simp [renameH, stepH, ho, hl, hc'], by simp [renameE, ho, hl, hc']; rfl⟩
end Go.Proofs.Ytanknokhbfijdaa
