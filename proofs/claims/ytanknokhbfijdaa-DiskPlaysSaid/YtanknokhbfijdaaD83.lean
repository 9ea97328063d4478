/- What functions of the disk, and of the laws over it, do. Conditions: those that each theorem names. -/
import Derived.Test.YtanknokhbfijdaaD82
import Derived.Test.YtanknokhbfijdaaD23
import Derived.Test.YtanknokhbfijdaaKc
set_option linter.unusedVariables false
set_option linter.unusedSimpArgs false
namespace Go.Proofs.Ytanknokhbfijdaa
open Go.Ab
set_option maxRecDepth 100000
set_option maxHeartbeats 1000000
attribute [local irreducible] Run CallOK DetCall Br PreP BothP AncOr Onw NeedRows NeedMap NeedRow NeedLen NilP NeedIter RoundP EntryP EqP OptP NewP NewSlice NewMade AppTo DrawG anc drawB
theorem bytesAt.pre {H : Heap} {d : D} {l : List UInt8} (h : bytesAt H d l) : bytesPre H d l := by
  rcases h with ⟨rfl, rfl⟩ | ⟨id, rfl, h⟩ | ⟨id, st, rs, rfl, rfl, h⟩
  · exact .inl ⟨rfl, rfl⟩
  · exact .inr (.inl ⟨id, _, rfl, h, by simp [List.take_of_length_le], by simp⟩)
  · exact .inr (.inr ⟨id, st, rs, rfl, rfl, h⟩)
theorem used_putF {l : List Fl} {f : Fl} (hn : (l.map (·.name)).Nodup) (hs : ∃ g ∈ l, g.name = f.name) : ((putF l f).map (·.bytes.length)).sum ≤ (l.map (·.bytes.length)).sum + f.bytes.length := by
  obtain ⟨g, hg, hgn⟩ := hs
  obtain ⟨l1, l2, rfl⟩ := List.append_of_mem hg
  rw [putF_mid hn hgn.symm]
  simp only [List.map_append, List.map_cons, List.sum_append, List.sum_cons]
  omega
def putK (k2 : Dk) (f : Fl) : Dk := { k2 with files := if (lookF k2 f.name).isSome then putF k2.files f else k2.files ++ [f], bs := updB (k2.files.map entF) (.str f.name) k2.bs k2.ck, ck := updC (k2.files.map entF) (.str f.name) k2.ck }
theorem putK_used {H : Heap} {c : Nat} {k2 : Dk} (h : DiskAt H c k2) (f : Fl) : usedN (putK k2 f) ≤ usedN k2 + f.bytes.length ∧ (putK k2 f).files.length ≤ k2.files.length + 1 := by
  unfold putK usedN
  cases hl : lookF k2 f.name with
  | none => simp
  | some g =>
    simp only [Option.isSome_some, if_true]
    refine ⟨used_putF h.names ⟨g, lookF_mem hl, (lookF_split hl).1⟩, by simp [putF]⟩
theorem putK_mem {k2 : Dk} {f g : Fl} (h : g ∈ (putK k2 f).files) : g = f ∨ g ∈ k2.files := by
  unfold putK at h
  cases hl : lookF k2 f.name with
  | none => simp [hl] at h; exact h.symm
  | some g0 =>
    simp only [hl, Option.isSome_some, if_true, putF, List.mem_map] at h
    obtain ⟨x, hx, rfl⟩ := h
    by_cases e : x.name = f.name
    · simp [e]
    · simp [e, hx]
structure CopyI (H : Heap) (k : Dk) (seen : List Nat) (k2 : Dk) (H' : Heap) : Prop where
  at' : DiskAt H' (H.length + 1) k2
  kept : KeptOK k2
  st : k2.steps = k.steps
  of : k2.off = k.off
  qu : k2.quota = k.quota
  old : ∀ j o, nth H j = some o → nth H' j = some o
  it : nth H' (H.length + 2) = some (.iter k.mid k.ck seen k.ck)
  ids : ∀ j ∈ idsD (H.length + 1) k2, H.length ≤ j ∧ j ≠ H.length + 2
  n : k2.files.length + leftN k.bs seen ≤ k.files.length
  u : usedN k2 + leftN k.bs seen * usedN k ≤ k.files.length * usedN k
theorem leftN_nil (bs : List Nat) : leftN bs [] = bs.length := by
  unfold leftN
  rw [List.filter_eq_self.2 (by simp)]
theorem CopyI.put {H : Heap} {k k2 : Dk} {seen : List Nat} {H1 : Heap} {b : Nat} {f : Fl} (hkm : k.mid < H.length) (hfk : f ∈ k.files) (hk : KeptOK k) (k2ok : KeptOK k2) (st : k2.steps = k.steps) (of : k2.off = k.off) (qu : k2.quota = k.quota)
    (hn : k2.files.length + leftN k.bs seen ≤ k.files.length) (hu : usedN k2 + leftN k.bs seen * usedN k ≤ k.files.length * usedN k) (hids : ∀ j ∈ idsD (H.length + 1) k2, H.length ≤ j ∧ j ≠ H.length + 2) (hlt : leftN k.bs (seen ++ [b]) < leftN k.bs seen)
    (hA : DiskAt H1 (H.length + 1) k2) (hB : ∀ j o, nth H j = some o → nth H1 j = some o) (hC : nth H1 (H.length + 2) = some (.iter k.mid k.ck (seen ++ [b]) k.ck)) :
    ∃ k3, CopyI H k (seen ++ [b]) k3 (setN (H1 ++ [Ab.Obj.rows (f.bytes.map byteRowD)] ++ [.rows [[.own H1.length 1 0 f.bytes.length (capOf f.bytes), i64 f.kept]]]) k2.mid
      (.map (updE (k2.files.map entF) (.str f.name) (.ptr (H1.length + 1) 0 0)) (updB (k2.files.map entF) (.str f.name) k2.bs k2.ck) (updC (k2.files.map entF) (.str f.name) k2.ck))) := by
  have hl := nth_lt hC
  have hA2 : DiskAt (H1 ++ [Ab.Obj.rows (f.bytes.map byteRowD)] ++ [.rows [[.own H1.length 1 0 f.bytes.length (capOf f.bytes), i64 f.kept]]]) (H.length + 1) k2 := hA.move (fun j hj o ho => nth_app (nth_app ho))
  have hb : bytesAt (H1 ++ [Ab.Obj.rows (f.bytes.map byteRowD)] ++ [.rows [[.own H1.length 1 0 f.bytes.length (capOf f.bytes), i64 f.kept]]]) (.own H1.length 1 0 f.bytes.length (capOf f.bytes)) f.bytes := by
    unfold capOf
    by_cases e : f.bytes = []
    · rw [if_pos e]
      exact .inr (.inr ⟨H1.length, 0, f.bytes.map byteRowD, by simp [e], e, nth_app (nth_new rfl), by simp⟩)
    · rw [if_neg e]
      exact .inr (.inl ⟨H1.length, rfl, nth_app (nth_new rfl)⟩)
  have hput := hA2.put ⟨f.name, H1.length + 1, .own H1.length 1 0 f.bytes.length (capOf f.bytes), f.bytes, f.kept⟩ ⟨nth_new (by simp), hb⟩ (by simp [gF, idsB]) (fun j hj e => by
    have := hA.ids_lt j e
    simp [gF, idsB] at hj; omega)
  obtain ⟨hD, hG⟩ := hput
  have hus := putK_used hA2 ⟨f.name, H1.length + 1, .own H1.length 1 0 f.bytes.length (capOf f.bytes), f.bytes, f.kept⟩
  have hfu := mem_used hfk
  have hmk := (hids k2.mid (by simp [idsD])).1
  refine ⟨_, hD, fun g hg => ?_, st, of, qu, fun j o ho => nth_setN_ne (by have := nth_lt ho; omega) (nth_app (nth_app (hB j o ho))), nth_setN_ne (hids k2.mid (by simp [idsD])).2 (nth_app (nth_app hC)), fun j hj => ?_, ?_, ?_⟩
  · rcases putK_mem hg with rfl | q
    · exact hk f hfk
    · exact k2ok g q
  · rcases hG.ids j hj with q | q
    · rcases List.mem_append.1 q with q | q
      · simp [gF, idsB] at q; omega
      · exact hids j q
    · simp at q; omega
  · have := hus.2
    show (putK k2 _).files.length + _ ≤ _
    omega
  · have h1 := hus.1
    show usedN (putK k2 _) + _ ≤ _
    have h2 : (leftN k.bs (seen ++ [b]) + 1) * usedN k ≤ leftN k.bs seen * usedN k := Nat.mul_le_mul_right _ hlt
    rw [Nat.add_mul, Nat.one_mul] at h2
    have h3 : usedN (putK k2 ⟨f.name, H1.length + 1, .own H1.length 1 0 f.bytes.length (capOf f.bytes), f.bytes, f.kept⟩) ≤ usedN k2 + f.bytes.length := h1
    omega
theorem s34 (H : Heap) (d : Nat) (k : Dk) (h : DiskAt H d k) (hk : KeptOK k) :
    Ab.Spec Try.prog 34 [.ptr d 0 0] H (fun r H' => ∃ c k2, r = .ptr c 0 0 ∧ DiskAt H' c k2 ∧ KeptOK k2 ∧ k2.steps = k.steps ∧ k2.off = k.off ∧ k2.quota = k.quota ∧
      k2.files.length ≤ k.files.length ∧ usedN k2 ≤ k.files.length * usedN k ∧ Goes H [] H' (idsD c k2)) := by
  have h1 := h.row
  unfold dRow at h1
  have h2 := h.map
  have hl1 := nth_lt h1
  have hl2 := nth_lt h2
  refine Ab.Spec.walk hm Try.func34 (by kernel_rfl) 100 ?_
  repeat' (first
    | ((with_reducible apply Onw.mk); conv => whnf)
    | (with_reducible first | apply Br.tt | apply Br.ff | apply Br.no)
    | ((with_reducible apply Br.t); · assumption)
    | ((with_reducible apply Br.f); · assumption)
    | ((with_reducible apply Br.dt); · exact ab_known)
    | ((with_reducible apply Br.df); · exact ab_known)
    | (with_reducible first | refine Br.dec (fun hc => ?_) (fun hc => ?_) | refine Br.mk (fun hc => ?_) (fun hc => ?_))
    | ((with_reducible apply DrawG.mkN 12 [false, false, false, false, false, false, false, false, true, false, true, false]); · decide +kernel)
    | ((with_reducible first | apply NeedRows.mk | apply NeedMap.mk | apply NeedIter.mk); · exact ab_look)
    | ((with_reducible apply NeedLen.mk); · first | assumption | rfl)
    | ((with_reducible apply NeedRow.mk); · exact ab_lookR)
    | ((with_reducible apply DrawG.mk (List.replicate 60 false)); · decide +kernel)
    | (with_reducible first | refine NewP.mk (fun id hid => ?_) | refine NilP.mk (fun e he => ?_))
    | (with_reducible first | exact trivial | exact And.intro rfl rfl)
    | ((with_reducible apply PreP.mk); · exact ab_asked)
    | refine Exists.intro _ (PreP.mk (bytesOf_lst _) ?_)
    | refine PreP.mk (lenD_lst _) ?_
    | (with_reducible first | refine PreP.mk ?_ ?_ | refine BothP.mk ?_ ?_)
    | ((with_reducible apply AncOr.anc); · decide +kernel)
    | with_reducible refine AncOr.go ?_)
  rename_i id1 hid1 id2 hid2
  have hI1 : id1 = H.length := hid1
  have hI2 : id2 = H.length + 1 := by rw [hid2]; simp
  have hI3 : id = H.length + 2 := by rw [hid]; simp
  clear hid1 hid2 hid
  subst hI1; subst hI2; subst hI3
  refine Run.keep [(3, .ptr (H.length + 1) 0 0), (21, .ptr (H.length + 2) 0 0)] ⟨rfl, rfl, trivial⟩ ?_
  refine Run.rounds (fun seen T H' => T = [(3, .ptr (H.length + 1) 0 0), (21, .ptr (H.length + 2) 0 0)] ∧ ∃ k2, CopyI H k seen k2 H') (leftN k.bs) ?_ (x := [])
    ⟨rfl, ⟨H.length, [], 0, k.steps, k.off, k.quota, []⟩, ⟨⟨nth_app (nth_new (by simp)), nth_app (nth_app (nth_new rfl)), fun f hf => (by cases hf), List.nodup_nil, fun b hb => (by cases hb), rfl, List.nodup_nil, by simp [idsF]⟩,
      fun f hf => (by cases hf), rfl, rfl, rfl, fun j o ho => nth_app (nth_app (nth_app ho)), nth_new (by simp), by intro j hj; simp [idsD, idsF] at hj; omega, by rw [leftN_nil, h.len]; simp, by rw [leftN_nil, h.len]; simp [usedN]⟩⟩
  rintro seen T H' ⟨rfl, k2, hc⟩ ih
  have hit := hc.it
  have hold := hc.old
  have hm0 := hold _ _ h2
  have hltit := nth_lt hit
  refine Run.walk hm Try.func34 100 ?_
  repeat' (first
    | ((with_reducible apply Onw.mk); conv => whnf)
    | (with_reducible first | apply Br.tt | apply Br.ff | apply Br.no)
    | ((with_reducible apply Br.t); · assumption)
    | ((with_reducible apply Br.f); · assumption)
    | ((with_reducible apply Br.dt); · exact ab_known)
    | ((with_reducible apply Br.df); · exact ab_known)
    | (with_reducible first | refine Br.dec (fun hc => ?_) (fun hc => ?_) | refine Br.mk (fun hc => ?_) (fun hc => ?_))
    | ((with_reducible first | apply NeedRows.mk | apply NeedMap.mk | apply NeedIter.mk); · exact ab_look)
    | ((with_reducible apply NeedLen.mk); · first | assumption | rfl)
    | ((with_reducible apply NeedRow.mk); · exact ab_lookR)
    | ((with_reducible apply DrawG.mk (List.replicate 60 false)); · decide +kernel)
    | (with_reducible first | refine NewP.mk (fun id hid => ?_) | refine NilP.mk (fun e he => ?_))
    | (with_reducible first | exact trivial | exact And.intro rfl rfl)
    | ((with_reducible apply PreP.mk); · exact ab_asked)
    | refine Exists.intro _ (PreP.mk (bytesOf_lst _) ?_)
    | refine PreP.mk (lenD_lst _) ?_
    | (with_reducible first | refine PreP.mk ?_ ?_ | refine BothP.mk ?_ ?_)
    | ((with_reducible apply AncOr.anc); · decide +kernel)
    | with_reducible refine AncOr.go ?_)
  · exact ⟨h.lt, Nat.le_refl _⟩
  refine RoundP.mk (fun hall => ?_) (fun i ky dd b hi hb hs => ?_)
  · repeat' (first
    | ((with_reducible apply Onw.mk); conv => whnf)
    | (with_reducible first | apply Br.tt | apply Br.ff | apply Br.no)
    | ((with_reducible apply Br.t); · assumption)
    | ((with_reducible apply Br.f); · assumption)
    | ((with_reducible apply Br.dt); · exact ab_known)
    | ((with_reducible apply Br.df); · exact ab_known)
    | (with_reducible first | refine Br.dec (fun hc => ?_) (fun hc => ?_) | refine Br.mk (fun hc => ?_) (fun hc => ?_))
    | ((with_reducible first | apply NeedRows.mk | apply NeedMap.mk | apply NeedIter.mk); · exact ab_look)
    | ((with_reducible apply NeedLen.mk); · first | assumption | rfl)
    | ((with_reducible apply NeedRow.mk); · exact ab_lookR)
    | ((with_reducible apply DrawG.mk (List.replicate 60 false)); · decide +kernel)
    | (with_reducible first | refine NewP.mk (fun id hid => ?_) | refine NilP.mk (fun e he => ?_))
    | (with_reducible first | exact trivial | exact And.intro rfl rfl)
    | ((with_reducible apply PreP.mk); · exact ab_asked)
    | refine Exists.intro _ (PreP.mk (bytesOf_lst _) ?_)
    | refine PreP.mk (lenD_lst _) ?_
    | (with_reducible first | refine PreP.mk ?_ ?_ | refine BothP.mk ?_ ?_)
    | ((with_reducible apply AncOr.anc); · decide +kernel)
    | with_reducible refine AncOr.go ?_)
    refine ⟨_, k2, rfl, hc.at', hc.kept, hc.st, hc.of, hc.qu, ?_, ?_, ⟨fun j o hj ho => hold j o ho, fun j hj => .inr (hc.ids j hj).1, ?_⟩⟩
    · have := hc.n; omega
    · have := hc.u; omega
    · omega
  · obtain ⟨f, hf, rfl, rfl⟩ : ∃ f, k.files[i]? = some f ∧ ky = .str f.name ∧ dd = .ptr f.fid 0 0 := by
      rw [List.getElem?_map] at hi
      cases hf : k.files[i]? with
      | none => rw [hf] at hi; cases hi
      | some f => rw [hf] at hi; simp [entF] at hi; exact ⟨f, rfl, hi.1.symm, hi.2.symm⟩
    have hfile := h.file f (List.mem_of_getElem? hf)
    have hfr0 := hfile.1
    have hfr := hold _ _ hfile.1
    have hlt := nth_lt hfr0
    have hne : H.length + 2 ≠ f.fid := by omega
    have hne2 : H.length + 2 ≠ k.mid := by omega
    have hrow2 := hc.at'.row
    unfold dRow at hrow2
    have hmap2 := hc.at'.map
    have hne3 := (hc.ids k2.mid (by simp [idsD])).2.symm
    have hne4 : H.length + 2 ≠ H.length + 1 := by omega
    repeat' (first
      | ((with_reducible apply Onw.mk); conv => whnf)
      | (with_reducible first | apply Br.tt | apply Br.ff | apply Br.no)
      | ((with_reducible apply Br.t); · assumption)
      | ((with_reducible apply Br.f); · assumption)
      | ((with_reducible apply Br.dt); · exact ab_known)
      | ((with_reducible apply Br.df); · exact ab_known)
      | (with_reducible first | refine Br.dec (fun hc => ?_) (fun hc => ?_) | refine Br.mk (fun hc => ?_) (fun hc => ?_))
      | ((with_reducible first | apply NeedRows.mk | apply NeedMap.mk | apply NeedIter.mk); · exact ab_look)
      | ((with_reducible apply NeedLen.mk); · first | assumption | rfl)
      | ((with_reducible apply NeedRow.mk); · exact ab_lookR)
      | ((with_reducible apply DrawG.mk (List.replicate 60 false)); · decide +kernel)
      | (with_reducible first | refine NewP.mk (fun id hid => ?_) | refine NilP.mk (fun e he => ?_))
      | (with_reducible first | exact trivial | exact And.intro rfl rfl)
      | ((with_reducible apply PreP.mk); · exact ab_asked)
      | refine Exists.intro _ (PreP.mk (bytesOf_lst _) ?_)
      | refine PreP.mk (lenD_lst _) ?_
      | (with_reducible first | refine PreP.mk ?_ ?_ | refine BothP.mk ?_ ?_)
      | ((with_reducible apply AncOr.anc); · decide +kernel)
      | with_reducible refine AncOr.go ?_)
    refine EntryP.mk (by simp) hb hi h.nodup ?_
    have hl := lenD_bytes hfile.2
    repeat' (first
      | ((with_reducible apply Onw.mk); conv => whnf)
      | (with_reducible first | apply Br.tt | apply Br.ff | apply Br.no)
      | ((with_reducible apply Br.t); · assumption)
      | ((with_reducible apply Br.f); · assumption)
      | ((with_reducible apply Br.dt); · exact ab_known)
      | ((with_reducible apply Br.df); · exact ab_known)
      | (with_reducible first | refine Br.dec (fun hc => ?_) (fun hc => ?_) | refine Br.mk (fun hc => ?_) (fun hc => ?_))
      | ((with_reducible apply DrawG.mkN 17 [false, false, false, false, false, false, false, false, false, true, false, false, false, false, false, true, true]); · decide +kernel)
      | ((with_reducible first | apply NeedRows.mk | apply NeedMap.mk | apply NeedIter.mk); · exact ab_look)
      | ((with_reducible apply NeedLen.mk); · first | assumption | rfl)
      | ((with_reducible apply NeedRow.mk); · exact ab_lookR)
      | ((with_reducible apply DrawG.mk (List.replicate 60 false)); · decide +kernel)
      | (with_reducible first | refine NewP.mk (fun id hid => ?_) | refine NilP.mk (fun e he => ?_))
      | (with_reducible first | exact trivial | exact And.intro rfl rfl)
      | ((with_reducible apply PreP.mk); · exact ab_asked)
      | refine Exists.intro _ (PreP.mk (bytesOf_lst _) ?_)
      | refine PreP.mk (lenD_lst _) ?_
      | (with_reducible first | refine PreP.mk ?_ ?_ | refine BothP.mk ?_ ?_)
      | ((with_reducible apply AncOr.anc); · decide +kernel)
      | with_reducible refine AncOr.go ?_)
    have hA : DiskAt (setN H' (H.length + 2) (.iter k.mid k.ck (seen ++ [b]) k.ck)) (H.length + 1) k2 := hc.at'.move (fun j hj o ho => nth_setN_ne (fun e => (hc.ids j hj).2 e.symm) ho)
    have hB : ∀ j o, nth H j = some o → nth (setN H' (H.length + 2) (.iter k.mid k.ck (seen ++ [b]) k.ck)) j = some o := fun j o ho => nth_setN_ne (by have := nth_lt ho; omega) (hold j o ho)
    have hC : nth (setN H' (H.length + 2) (.iter k.mid k.ck (seen ++ [b]) k.ck)) (H.length + 2) = some (.iter k.mid k.ck (seen ++ [b]) k.ck) := nth_setN_same hit
    clear hit hold hm0 hltit hfr hrow2 hmap2
    generalize setN H' (H.length + 2) (.iter k.mid k.ck (seen ++ [b]) k.ck) = H1 at hA hB hC
    have hfr := hB _ _ hfile.1
    have hrow2 := hA.row
    unfold dRow at hrow2
    have hmap2 := hA.map
    have hltC := nth_lt hC
    refine DetCall.go (c49t H1 f.bd f.bytes ((hfile.2.mono fun i hi o ho => hB i o ho).pre) (hk f (List.mem_of_getElem? hf)).2.2.1) ?_
    have hk1 : keysOk .str (k2.files.map entF) ∧ keyOk .str (.str f.name) = true := ⟨keysOk_str k2.files (·.name) (fun f => .ptr f.fid 0 0), rfl⟩
    repeat' (first
      | ((with_reducible apply Onw.mk); conv => whnf)
      | (with_reducible first | apply Br.tt | apply Br.ff | apply Br.no)
      | ((with_reducible apply Br.t); · assumption)
      | ((with_reducible apply Br.f); · assumption)
      | ((with_reducible apply Br.dt); · exact ab_known)
      | ((with_reducible apply Br.df); · exact ab_known)
      | (with_reducible first | refine Br.dec (fun hc => ?_) (fun hc => ?_) | refine Br.mk (fun hc => ?_) (fun hc => ?_))
      | (refine PreP.mk hk1 ?_)
      | ((with_reducible first | apply NeedRows.mk | apply NeedMap.mk | apply NeedIter.mk); · exact ab_look)
      | ((with_reducible apply NeedLen.mk); · first | assumption | rfl)
      | ((with_reducible apply NeedRow.mk); · exact ab_lookR)
      | ((with_reducible apply DrawG.mk (List.replicate 60 false)); · decide +kernel)
      | (with_reducible first | refine NewP.mk (fun id hid => ?_) | refine NilP.mk (fun e he => ?_))
      | (with_reducible first | exact trivial | exact And.intro rfl rfl)
      | ((with_reducible apply PreP.mk); · exact ab_asked)
      | refine Exists.intro _ (PreP.mk (bytesOf_lst _) ?_)
      | refine PreP.mk (lenD_lst _) ?_
      | (with_reducible first | refine PreP.mk ?_ ?_ | refine BothP.mk ?_ ?_)
      | ((with_reducible apply AncOr.anc); · decide +kernel)
      | with_reducible refine AncOr.go ?_)
    refine Run.keep [(3, .ptr (H.length + 1) 0 0), (21, .ptr (H.length + 2) 0 0)] ⟨rfl, rfl, trivial⟩ ?_
    refine ih (seen ++ [b]) _ _ (leftN_less (List.mem_of_getElem? hb) hs) ⟨rfl, ?_⟩
    have e : id = H1.length + 1 := by rw [hid]; simp
    subst e
    exact CopyI.put hl2 (List.mem_of_getElem? hf) hk hc.kept hc.st hc.of hc.qu hc.n hc.u hc.ids (leftN_less (List.mem_of_getElem? hb) hs) hA hB hC
end Go.Proofs.Ytanknokhbfijdaa
