/- What functions of the disk, and of the laws over it, do. Conditions: those that each theorem names. -/
import Derived.Test.YtanknokhbfijdaaD2
set_option linter.unusedVariables false
set_option linter.unusedSimpArgs false
namespace Go.Proofs.Ytanknokhbfijdaa
open Go.Ab
set_option maxRecDepth 100000
set_option maxHeartbeats 1000000
attribute [local irreducible] Run CallOK DetCall Br PreP BothP AncOr Onw NeedRows NeedMap NeedRow NeedLen NilP NeedIter RoundP EntryP EqP OptP NewP NewSlice NewMade AppTo DrawG anc drawB

/-- Bytes stay where nothing of theirs is turned. -/
theorem bytesAt.mono {H H' : Heap} {d : D} {l : List UInt8} (h : bytesAt H d l) (hh : ∀ id ∈ idsB d, ∀ o, nth H id = some o → nth H' id = some o) : bytesAt H' d l := by
  rcases h with ⟨rfl, rfl⟩ | ⟨id, rfl, h⟩ | ⟨id, st, rs, rfl, rfl, h⟩
  · exact .inl ⟨rfl, rfl⟩
  · exact .inr (.inl ⟨id, rfl, hh id (by simp [idsB]) _ h⟩)
  · exact .inr (.inr ⟨id, st, rs, rfl, rfl, hh id (by simp [idsB]) _ h.1, h.2⟩)
theorem DiskAt.d_out {H : Heap} {d : Nat} {k : Dk} (h : DiskAt H d k) {i : Nat} (hi : i ∈ idsF k) : d ≠ i := by
  have h1 := h.ids
  simp only [List.nodup_cons, List.mem_cons, not_or] at h1
  exact fun e => h1.1.2 (by rw [e]; exact hi)
theorem DiskAt.m_out {H : Heap} {d : Nat} {k : Dk} (h : DiskAt H d k) {i : Nat} (hi : i ∈ idsF k) : k.mid ≠ i := by
  have h1 := h.ids
  simp only [List.nodup_cons, List.mem_cons, not_or] at h1
  exact fun e => h1.2.1 (by rw [e]; exact hi)
theorem DiskAt.d_m {H : Heap} {d : Nat} {k : Dk} (h : DiskAt H d k) : d ≠ k.mid := by
  have h1 := h.ids
  simp only [List.nodup_cons, List.mem_cons, not_or] at h1
  exact h1.1.1
theorem idsF_fid {k : Dk} {f : Fl} (hf : f ∈ k.files) : f.fid ∈ idsF k := List.mem_flatMap.2 ⟨f, hf, List.mem_cons_self⟩
theorem idsF_bd {k : Dk} {f : Fl} (hf : f ∈ k.files) {i : Nat} (hi : i ∈ idsB f.bd) : i ∈ idsF k := List.mem_flatMap.2 ⟨f, hf, List.mem_cons_of_mem _ hi⟩
/-- The disk's own row turned. -/
theorem DiskAt.setRow {H : Heap} {d : Nat} {k : Dk} (h : DiskAt H d k) (s o : Int) : DiskAt (setN H d (dRow { k with steps := s, off := o })) d { k with steps := s, off := o } where
  row := nth_setN_same h.row
  map := nth_setN_ne h.d_m h.map
  file f hf := ⟨nth_setN_ne (h.d_out (idsF_fid hf)) (h.file f hf).1, (h.file f hf).2.mono (fun i hi _ ho => nth_setN_ne (h.d_out (idsF_bd hf hi)) ho)⟩
  nodup := h.nodup
  lt := h.lt
  len := h.len
  names := h.names
  ids := h.ids
theorem c20 (H : Heap) (d : Nat) (k : Dk) (h : DiskAt H d k) (hu : usedN k ≤ 4611686018427387904) : CallOK Try.prog 20 [.ptr d 0 0] H (fun r H' => r = i64 (usedN k) ∧ H' = H) :=
  (CallOK.trim (CallOK.of_spec (s20 H d k h hu))).mono (fun _ _ hr => ⟨hr.2.2, hr.1⟩)

/-- Does it not fit? -/
def fullB (k : Dk) (n : Nat) (there : Bool) : Bool := decide (IntKind.i64.wrap (k.quota - usedN k) < n) || (!there && decide (50 ≤ k.files.length))
def appendE (k : Dk) (name b : List UInt8) : Int :=
  bif offB (k.steps + 1) k.off then 212 else bif okName name then (bif fullB k b.length (lookF k name).isSome then 211 else 0) else 210
/-- A file more. -/
def newH (H : Heap) (k : Dk) (name b : List UInt8) : Heap :=
  setN (setN (H ++ [.rows [[.p .nil, i64 0]]]) k.mid (.map (updE (k.files.map entF) (.str name) (.ptr H.length 0 0)) (updB (k.files.map entF) (.str name) k.bs k.ck) (updC (k.files.map entF) (.str name) k.ck)) ++
    [.rows (b.map byteRowD)]) H.length (.rows [[.own (H.length + 1) 1 0 b.length none, i64 0]])
theorem rows_bytes (b : List UInt8) : (b.map byteRow).map (·.map D.p) = b.map byteRowD := by
  induction b with
  | nil => rfl
  | cons x b ih => simp only [List.map_cons, ih]; rfl

theorem appPre (b : List UInt8) (hb : b.length ≤ 100000) : ((b.map byteRow).map (·.map D.p)).length * 1 ≤ maxRoom ∧ ((b.map byteRow).map (·.map D.p)).length ≤ maxS ∧ ∀ r ∈ (b.map byteRow).map (·.map D.p), r.length = 1 := by
  rw [rows_bytes, List.length_map]
  unfold maxRoom maxS
  refine ⟨by omega, by omega, fun r hr => ?_⟩
  obtain ⟨x, _, rfl⟩ := List.mem_map.1 hr
  rfl

theorem s16new (H : Heap) (d : Nat) (k : Dk) (name b : List UInt8) (hn : name.length ≤ 1000) (hb : b.length ≤ 100000) (h : DiskAt H d k) (hs : 0 ≤ k.steps) (hs' : k.steps < 4611686018427387904) (hu : usedN k ≤ 4611686018427387904) (hl : lookF k name = none) :
    Ab.Spec Try.prog 16 [.ptr d 0 0, .p (.str name), .p (.lst (b.map byteRow))] H (fun r H' => r = i64 (appendE k name b) ∧ H' = bif appendE k name b == 0 then newH (stepH H d k) k name b else stepH H d k) := by
  have h0 := h.row
  have h2 := h.map
  have hne := h.d_m
  unfold dRow at h0
  refine Ab.Spec.walk hm Try.func16 (by kernel_rfl) 200 ?_
  repeat' (first
    | ((with_reducible apply Onw.mk); conv => whnf)
    | (with_reducible first | apply Br.tt | apply Br.ff | apply Br.no)
    | ((with_reducible apply Br.t); · assumption)
    | ((with_reducible apply Br.f); · assumption)
    | ((with_reducible apply Br.dt); · exact ab_known)
    | ((with_reducible apply Br.df); · exact ab_known)
    | (with_reducible first | refine Br.dec (fun hc => ?_) (fun hc => ?_) | refine Br.mk (fun hc => ?_) (fun hc => ?_))
    | ((with_reducible first | apply NeedRows.mk | apply NeedMap.mk | apply NeedIter.mk); · exact ab_look)
    | ((with_reducible apply NeedLen.mk); · first | assumption | rfl)
    | ((with_reducible apply NeedRow.mk); · exact ab_lookR)
    | ((with_reducible apply DrawG.mk (List.replicate 60 false)); · decide +kernel)
    | (with_reducible first | refine NewP.mk (fun id hid => ?_) | refine NilP.mk (fun e he => ?_))
    | (with_reducible first | exact trivial | exact And.intro rfl rfl)
    | ((with_reducible apply PreP.mk); · exact ab_asked)
    | refine Exists.intro _ (PreP.mk (bytesOf_lst _) ?_)
    | refine PreP.mk (lenD_lst _) ?_
    | (with_reducible first | refine PreP.mk ?_ ?_ | refine BothP.mk ?_ ?_)
    | ((with_reducible apply AncOr.anc); · decide +kernel)
    | with_reducible refine AncOr.go ?_)
  · exact ⟨keysOk_files k, rfl⟩
  rw [lookE_files, hl]
  refine OptP.none rfl ?_
  repeat' (first
    | ((with_reducible apply Onw.mk); conv => whnf)
    | (with_reducible first | apply Br.tt | apply Br.ff | apply Br.no)
    | ((with_reducible apply Br.t); · assumption)
    | ((with_reducible apply Br.f); · assumption)
    | ((with_reducible apply Br.dt); · exact ab_known)
    | ((with_reducible apply Br.df); · exact ab_known)
    | (with_reducible first | refine Br.dec (fun hc => ?_) (fun hc => ?_) | refine Br.mk (fun hc => ?_) (fun hc => ?_))
    | ((with_reducible first | apply NeedRows.mk | apply NeedMap.mk | apply NeedIter.mk); · exact ab_look)
    | ((with_reducible apply NeedLen.mk); · first | assumption | rfl)
    | ((with_reducible apply NeedRow.mk); · exact ab_lookR)
    | ((with_reducible apply DrawG.mk (List.replicate 60 false)); · decide +kernel)
    | (with_reducible first | refine NewP.mk (fun id hid => ?_) | refine NilP.mk (fun e he => ?_))
    | (with_reducible first | exact trivial | exact And.intro rfl rfl)
    | ((with_reducible apply PreP.mk); · exact ab_asked)
    | refine Exists.intro _ (PreP.mk (bytesOf_lst _) ?_)
    | refine PreP.mk (lenD_lst _) ?_
    | (with_reducible first | refine PreP.mk ?_ ?_ | refine BothP.mk ?_ ?_)
    | ((with_reducible apply AncOr.anc); · decide +kernel)
    | with_reducible refine AncOr.go ?_)
  refine CallOK.go (CallOK.of_spec (s46 _ _ _ _ _ h0 hs hs')) (fun r H1 hr => ?_)
  obtain ⟨hH1, rfl⟩ := hr
  have hk : DiskAt H1 d { k with steps := k.steps + 1 } := by rw [hH1]; exact h.setRow (k.steps + 1) k.off
  have hkr : nth H1 d = some (.rows [[i64 (k.steps + 1), i64 k.off, i64 k.quota, .mp k.mid]]) := hk.row
  have hkm : nth H1 k.mid = some (.map (k.files.map entF) k.bs k.ck) := hk.map
  have hlt := nth_lt hkm
  have hH1' : stepH H d k = H1 := hH1.symm
  rw [hH1']
  repeat' (first
    | ((with_reducible apply Onw.mk); conv => whnf)
    | (with_reducible first | apply Br.tt | apply Br.ff | apply Br.no)
    | ((with_reducible apply Br.t); · assumption)
    | ((with_reducible apply Br.f); · assumption)
    | ((with_reducible apply Br.dt); · exact ab_known)
    | ((with_reducible apply Br.df); · exact ab_known)
    | (with_reducible first | refine Br.dec (fun hc => ?_) (fun hc => ?_) | refine Br.mk (fun hc => ?_) (fun hc => ?_))
    | ((with_reducible first | apply NeedRows.mk | apply NeedMap.mk | apply NeedIter.mk); · exact ab_look)
    | ((with_reducible apply NeedLen.mk); · first | assumption | rfl)
    | ((with_reducible apply NeedRow.mk); · exact ab_lookR)
    | ((with_reducible apply DrawG.mk (List.replicate 60 false)); · decide +kernel)
    | (with_reducible first | refine NewP.mk (fun id hid => ?_) | refine NilP.mk (fun e he => ?_))
    | (with_reducible first | exact trivial | exact And.intro rfl rfl)
    | ((with_reducible apply PreP.mk); · exact ab_asked)
    | refine Exists.intro _ (PreP.mk (bytesOf_lst _) ?_)
    | refine PreP.mk (lenD_lst _) ?_
    | (with_reducible first | refine PreP.mk ?_ ?_ | refine BothP.mk ?_ ?_)
    | ((with_reducible apply AncOr.anc); · decide +kernel)
    | with_reducible refine AncOr.go ?_)
  · have e : appendE k name b = 212 := by simp [appendE, hc]
    rw [e]; exact ⟨rfl, rfl⟩
  refine CallOK.go (CallOK.of_spec (s47 name hn _)) (fun r H' hr => ?_)
  obtain ⟨rfl, rfl⟩ := hr
  repeat' (first
    | ((with_reducible apply Onw.mk); conv => whnf)
    | (with_reducible first | apply Br.tt | apply Br.ff | apply Br.no)
    | ((with_reducible apply Br.t); · assumption)
    | ((with_reducible apply Br.f); · assumption)
    | ((with_reducible apply Br.dt); · exact ab_known)
    | ((with_reducible apply Br.df); · exact ab_known)
    | (with_reducible first | refine Br.dec (fun hc => ?_) (fun hc => ?_) | refine Br.mk (fun hc => ?_) (fun hc => ?_))
    | (refine DetCall.go (c20 _ _ _ hk hu) ?_)
    | ((with_reducible first | apply NeedRows.mk | apply NeedMap.mk | apply NeedIter.mk); · exact ab_look)
    | ((with_reducible apply NeedLen.mk); · first | assumption | rfl)
    | ((with_reducible apply NeedRow.mk); · exact ab_lookR)
    | ((with_reducible apply DrawG.mk (List.replicate 60 false)); · decide +kernel)
    | (with_reducible first | refine NewP.mk (fun id hid => ?_) | refine NilP.mk (fun e he => ?_))
    | (with_reducible first | exact trivial | exact And.intro rfl rfl)
    | ((with_reducible apply PreP.mk); · exact ab_asked)
    | refine Exists.intro _ (PreP.mk (bytesOf_lst _) ?_)
    | refine PreP.mk (lenD_lst _) ?_
    | (with_reducible first | refine PreP.mk ?_ ?_ | refine BothP.mk ?_ ?_)
    | ((with_reducible apply AncOr.anc); · decide +kernel)
    | with_reducible refine AncOr.go ?_)
  · rename_i ho hnm
    have hnm' : okName name = true := hnm
    have hf : fullB k b.length false = true := by
      rw [List.length_map] at hc
      have : decide (IntKind.i64.wrap (k.quota - usedN k) < b.length) = true := decide_eq_true hc
      unfold fullB; rw [this]; rfl
    have e : appendE k name b = 211 := by simp [appendE, ho, hnm', hl, hf]
    rw [e]; exact ⟨rfl, rfl⟩
  · rename_i ho hnm hq
    have hnm' : okName name = true := hnm
    have hf : fullB k b.length false = true := by
      rw [List.length_map] at hc
      have : decide (50 ≤ k.files.length) = true := decide_eq_true (by omega)
      unfold fullB; rw [this]; simp
    have e : appendE k name b = 211 := by simp [appendE, ho, hnm', hl, hf]
    rw [e]; exact ⟨rfl, rfl⟩
  · exact ⟨keysOk_files k, rfl⟩
  · exact appPre b hb
  · rename_i ho hnm hq
    have hnm' : okName name = true := hnm
    have hf : fullB k b.length false = false := by
      rw [List.length_map] at hc hq
      have h1 : decide (50 ≤ k.files.length) = false := decide_eq_false (by omega)
      have h3 : decide (IntKind.i64.wrap (k.quota - usedN k) < b.length) = false := decide_eq_false hq
      unfold fullB; rw [h1, h3]; rfl
    have e : appendE k name b = 0 := by simp [appendE, ho, hnm', hl, hf]
    refine NewSlice.own (fun id2 hid2 => ?_)
    have hne3 : k.mid ≠ id := by omega
    repeat' (first
      | ((with_reducible apply Onw.mk); conv => whnf)
      | (with_reducible first | apply Br.tt | apply Br.ff | apply Br.no)
      | ((with_reducible apply Br.t); · assumption)
      | ((with_reducible apply Br.f); · assumption)
      | ((with_reducible apply Br.dt); · exact ab_known)
      | ((with_reducible apply Br.df); · exact ab_known)
      | (with_reducible first | refine Br.dec (fun hc => ?_) (fun hc => ?_) | refine Br.mk (fun hc => ?_) (fun hc => ?_))
      | ((with_reducible first | apply NeedRows.mk | apply NeedMap.mk | apply NeedIter.mk); · exact ab_look)
      | ((with_reducible apply NeedLen.mk); · first | assumption | rfl)
      | ((with_reducible apply NeedRow.mk); · exact ab_lookR)
      | ((with_reducible apply DrawG.mk (List.replicate 60 false)); · decide +kernel)
      | (with_reducible first | refine NewP.mk (fun id hid => ?_) | refine NilP.mk (fun e he => ?_))
      | (with_reducible first | exact trivial | exact And.intro rfl rfl)
      | ((with_reducible apply PreP.mk); · exact ab_asked)
      | refine Exists.intro _ (PreP.mk (bytesOf_lst _) ?_)
      | refine PreP.mk (lenD_lst _) ?_
      | (with_reducible first | refine PreP.mk ?_ ?_ | refine BothP.mk ?_ ?_)
      | ((with_reducible apply AncOr.anc); · decide +kernel)
      | with_reducible refine AncOr.go ?_)
    rw [e]
    have key : ∀ (rows : List (List D)) (n m : Nat), rows = b.map byteRowD → n = b.length → m = H'.length + 1 →
        setN (setN (H' ++ [.rows [[.p .nil, i64 0]]]) k.mid (.map (updE (k.files.map entF) (.str name) (.ptr H'.length 0 0)) (updB (k.files.map entF) (.str name) k.bs k.ck) (updC (k.files.map entF) (.str name) k.ck)) ++
          [.rows rows]) H'.length (.rows [[.own m 1 0 n none, i64 0]]) = newH H' k name b := by
      rintro _ _ _ rfl rfl rfl; rfl
    subst hid
    exact ⟨rfl, key _ _ _ (rows_bytes b) (by simp) (by rw [hid2]; simp [setN_length])⟩
  · rename_i ho
    have hnm' : okName name = false := hc
    have e : appendE k name b = 210 := by simp [appendE, ho, hnm']
    rw [e]; exact ⟨rfl, rfl⟩
end Go.Proofs.Ytanknokhbfijdaa
