/- What functions of the disk, and of the laws over it, do. Conditions: those that each theorem names. -/
import Derived.Test.YtanknokhbfijdaaD12
set_option linter.unusedVariables false
set_option linter.unusedSimpArgs false
namespace Go.Proofs.Ytanknokhbfijdaa
open Go.Ab
set_option maxRecDepth 100000
set_option maxHeartbeats 1000000

def errM (m : Ds) (name : List UInt8) : Int := bif offB (m.steps + 1) m.off then 212 else match findM m name with
  | some _ => 0
  | none => 210
theorem errR_plain (k : Dk) (name : List UInt8) : errR k name = errM (plain k) name := by
  unfold errR errM
  rw [findM_plain]
  cases lookF k name <;> rfl
def syncM (m : Ds) (name : List UInt8) : Ds := bif errM m name == 0 then { stepM m with files := m.files.map fun p => if p.name = name then { p with kept := p.bytes.length } else p } else stepM m
theorem syncH_is {H : Heap} {d : Nat} {k : Dk} (h : DiskAt H d k) (hk : KeptOK k) (name : List UInt8) : ∃ ids', DiskIs (syncH H d k name) d (syncM (plain k) name) ids' ∧ Goes H (idsD d k) (syncH H d k name) ids' := by
  have hst := h.step
  have hgs := Goes.step H d k
  have hE := errR_plain k name
  unfold errR at hE
  unfold syncH
  cases ho : offB (k.steps + 1) k.off with
  | true =>
    rw [ho] at hE
    refine ⟨_, ⟨_, hst, hk, ?_, rfl⟩, hgs⟩
    unfold syncM; rw [← hE]; rfl
  | false =>
    cases hl : lookF k name with
    | none =>
      rw [ho, hl] at hE
      refine ⟨_, ⟨_, hst, hk, ?_, rfl⟩, hgs⟩
      unfold syncM; rw [← hE]; rfl
    | some f =>
      rw [ho, hl] at hE
      have hf := lookF_mem hl
      have hsy := hst.sync (f := f) hf
      refine ⟨_, ⟨_, hsy.1, ?_, ?_, rfl⟩, hgs.trans hsy.2⟩
      · intro g hg
        obtain ⟨g0, hg0, rfl⟩ := List.mem_map.1 hg
        have h1 := hk g0 hg0
        have h2 := hk f hf
        split
        · exact ⟨Int.natCast_nonneg _, Int.le_refl _, h2.2.2⟩
        · exact h1
      · have hnm : f.name = name := (lookF_split hl).1
        unfold syncM; rw [← hE]
        subst hnm
        have := putF_pf hst (f := f) hf { f with kept := f.bytes.length } rfl (fun p => { p with kept := p.bytes.length }) (by simp [pf])
        simp only [plain, stepM]
        exact congrArg (Ds.mk _ _ _) this
/-- Sync. -/
theorem a17 {H : Heap} {d : Nat} {m : Ds} {ids : List Nat} (h : DiskIs H d m ids) (ho : DsOK m) (name : List UInt8) :
    CallOK Try.prog 17 [.ptr d 0 0, .p (.str name)] H (fun r H' => r = i64 (errM m name) ∧ ∃ ids', DiskIs H' d (syncM m name) ids' ∧ Goes H ids H' ids') := by
  obtain ⟨k, h, hk, rfl, rfl⟩ := h
  have hs1 : k.steps < 1000000000000 := ho.s1
  refine (CallOK.of_spec (s17 H d k name h ho.s0 (by omega))).mono (fun r H' hr => ?_)
  obtain ⟨rfl, rfl⟩ := hr
  exact ⟨by rw [errR_plain], syncH_is h hk name⟩

def removeM (m : Ds) (name : List UInt8) : Ds := bif errM m name == 0 then { stepM m with files := m.files.eraseP fun p => decide (name = p.name) } else stepM m
theorem erase_plain (k : Dk) (name : List UInt8) : (k.files.eraseP fun f => decide (name = f.name)).map pf = (k.files.map pf).eraseP fun p => decide (name = p.name) := by
  induction k.files with
  | nil => rfl
  | cons f l ih =>
    simp only [List.map_cons, List.eraseP_cons]
    by_cases e : name = f.name
    · have e2 : name = (pf f).name := e
      simp [e2, pf]
    · have e2 : ¬ name = (pf f).name := e
      simp [e2, e, ih]
theorem mem_eraseP {α : Type} {p : α → Bool} {l : List α} {x : α} (h : x ∈ l.eraseP p) : x ∈ l := (List.eraseP_sublist).subset h
theorem removeH_is {H : Heap} {d : Nat} {k : Dk} (h : DiskAt H d k) (hk : KeptOK k) (name : List UInt8) : ∃ ids', DiskIs (removeH H d k name) d (removeM (plain k) name) ids' ∧ Goes H (idsD d k) (removeH H d k name) ids' := by
  have hst := h.step
  have hgs := Goes.step H d k
  have hE := errR_plain k name
  unfold errR at hE
  unfold removeH
  cases ho : offB (k.steps + 1) k.off with
  | true =>
    rw [ho] at hE
    refine ⟨_, ⟨_, hst, hk, ?_, rfl⟩, hgs⟩
    unfold removeM; rw [← hE]; rfl
  | false =>
    cases hl : lookF k name with
    | none =>
      rw [ho, hl] at hE
      refine ⟨_, ⟨_, hst, hk, ?_, rfl⟩, hgs⟩
      unfold removeM; rw [← hE]; rfl
    | some f =>
      rw [ho, hl] at hE
      have hde := hst.del (name := name) (f := f) hl
      refine ⟨_, ⟨_, hde.1, fun g hg => hk g (mem_eraseP hg), ?_, rfl⟩, hgs.trans hde.2⟩
      unfold removeM; rw [← hE]
      simp only [plain, stepM]
      exact congrArg (Ds.mk _ _ _) (erase_plain k name)
/-- Remove. -/
theorem a21 {H : Heap} {d : Nat} {m : Ds} {ids : List Nat} (h : DiskIs H d m ids) (ho : DsOK m) (name : List UInt8) :
    CallOK Try.prog 21 [.ptr d 0 0, .p (.str name)] H (fun r H' => r = i64 (errM m name) ∧ ∃ ids', DiskIs H' d (removeM m name) ids' ∧ Goes H ids H' ids') := by
  obtain ⟨k, h, hk, rfl, rfl⟩ := h
  have hs1 : k.steps < 1000000000000 := ho.s1
  refine (CallOK.of_spec (s21 H d k name h ho.s0 (by omega))).mono (fun r H' hr => ?_)
  obtain ⟨rfl, rfl⟩ := hr
  exact ⟨by rw [errR_plain], removeH_is h hk name⟩

def renameR (m : Ds) (a b : List UInt8) : Int := bif offB (m.steps + 1) m.off then 212 else match findM m a with
  | some _ => bif okName b then 0 else 210
  | none => 210
def putP (files : List PF) (f : PF) : List PF := if (files.find? fun p => decide (f.name = p.name)).isSome then files.map (fun p => if p.name = f.name then f else p) else files ++ [f]
def renameM (m : Ds) (a b : List UInt8) : Ds := bif renameR m a b == 0 then
    match findM m a with
    | some f => { stepM m with files := putP (m.files.eraseP fun p => decide (a = p.name)) { f with name := b } }
    | none => stepM m
  else stepM m
theorem renameE_plain (k : Dk) (a b : List UInt8) : renameE k a b = renameR (plain k) a b := by
  unfold renameE renameR
  rw [findM_plain]
  cases lookF k a <;> rfl
theorem renameH_is {H : Heap} {d : Nat} {k : Dk} (h : DiskAt H d k) (hk : KeptOK k) (a b : List UInt8) (hb : b.length ≤ 1000) : ∃ ids', DiskIs (renameH H d k a b) d (renameM (plain k) a b) ids' ∧ Goes H (idsD d k) (renameH H d k a b) ids' := by
  have hst := h.step
  have hgs := Goes.step H d k
  have hE := renameE_plain k a b
  unfold renameE at hE
  unfold renameH
  cases ho : offB (k.steps + 1) k.off with
  | true =>
    rw [ho] at hE
    refine ⟨_, ⟨_, hst, hk, ?_, rfl⟩, hgs⟩
    unfold renameM; rw [← hE]; rfl
  | false =>
    cases hl : lookF k a with
    | none =>
      rw [ho, hl] at hE
      refine ⟨_, ⟨_, hst, hk, ?_, rfl⟩, hgs⟩
      unfold renameM; rw [← hE]; rfl
    | some f =>
      rw [ho, hl] at hE
      cases hok : okName b with
      | false =>
        rw [hok] at hE
        refine ⟨_, ⟨_, hst, hk, ?_, rfl⟩, hgs⟩
        unfold renameM; rw [← hE]; rfl
      | true =>
        rw [hok] at hE
        have hf := lookF_mem hl
        obtain ⟨hname, l1, l2, hsplit, her, _⟩ := lookF_split hl
        have hde := hst.del (name := a) (f := f) hl
        have hfile := hst.file f hf
        have hids : (d :: k.mid :: l1.flatMap gF ++ (gF f ++ l2.flatMap gF)).Nodup := by
          have := h.ids
          rw [idsF_eq, hsplit, List.flatMap_append, List.flatMap_cons] at this
          exact this
        have hfm : ∀ j ∈ gF f, k.mid ≠ j := fun j hj => h.m_out (List.mem_flatMap.2 ⟨f, hf, hj⟩)
        have hfd : ∀ j ∈ gF f, d ≠ j := fun j hj => h.d_out (List.mem_flatMap.2 ⟨f, hf, hj⟩)
        have hde1 : DiskAt (setN (stepH H d k) k.mid (.map (delEs k a) (delBs k a) k.ck)) d { k with steps := k.steps + 1, files := k.files.eraseP fun f => decide (a = f.name), bs := delBs k a } := hde.1
        have hpu := hde1.put { f with name := b }
          ⟨nth_setN_ne (hfm _ List.mem_cons_self) hfile.1, hfile.2.mono fun i hi o ho => nth_setN_ne (hfm _ (List.mem_cons_of_mem _ hi)) ho⟩
          (by have := List.nodup_append.1 (List.nodup_append.1 hids).2.1; exact this.1)
          (fun j hj hj' => by
            have hj : j ∈ gF f := hj
            unfold idsD at hj'
            rw [idsF_eq] at hj'
            simp only [her] at hj'
            rw [List.flatMap_append] at hj'
            have h1 := List.nodup_append.1 hids
            have h2 := List.nodup_append.1 h1.2.1
            rcases List.mem_cons.1 hj' with q | q
            · exact hfd j hj q.symm
            rcases List.mem_cons.1 q with q | q
            · exact hfm j hj q.symm
            rcases List.mem_append.1 q with q | q
            · exact h1.2.2 j (by simp only [List.mem_cons]; exact .inr (.inr q)) j (List.mem_append_left _ hj) rfl
            · exact h2.2.2 j hj j q rfl)
        generalize hK1 : ({ k with steps := k.steps + 1, files := k.files.eraseP fun f => decide (a = f.name), bs := delBs k a } : Dk) = K1 at hpu
        generalize hK2 : ({ K1 with files := if (lookF K1 b).isSome then putF K1.files { f with name := b } else K1.files ++ [{ f with name := b }], bs := updB (K1.files.map entF) (.str b) K1.bs K1.ck, ck := updC (K1.files.map entF) (.str b) K1.ck } : Dk) = K2
        have hes : K1.files.map entF = delEs k a := by subst hK1; exact (delEs_eq k a).symm
        have hmid : K1.mid = k.mid := by subst hK1; rfl
        have hbs : K1.bs = delBs k a := by subst hK1; rfl
        have hck : K1.ck = k.ck := by subst hK1; rfl
        have hfs : K1.files.map pf = (k.files.map pf).eraseP fun p => decide (a = p.name) := by subst hK1; exact erase_plain k a
        have hg1 : Goes H (idsD d k) (setN (stepH H d k) k.mid (.map (delEs k a) (delBs k a) k.ck)) (idsD d K1) := by subst hK1; exact hgs.trans hde.2
        obtain ⟨p1, p2⟩ : DiskAt (setN (setN (stepH H d k) k.mid (.map (delEs k a) (delBs k a) k.ck)) k.mid (.map (updE (delEs k a) (.str b) (.ptr f.fid 0 0)) (updB (delEs k a) (.str b) (delBs k a) k.ck) (updC (delEs k a) (.str b) k.ck))) d K2 ∧
            Goes (setN (stepH H d k) k.mid (.map (delEs k a) (delBs k a) k.ck)) (gF f ++ idsD d K1) (setN (setN (stepH H d k) k.mid (.map (delEs k a) (delBs k a) k.ck)) k.mid (.map (updE (delEs k a) (.str b) (.ptr f.fid 0 0)) (updB (delEs k a) (.str b) (delBs k a) k.ck) (updC (delEs k a) (.str b) k.ck))) (idsD d K2) := by
          have hh := hpu
          simp only [hes, hmid, hbs, hck] at hh
          subst hK2
          simp only [hes, hmid, hbs, hck]
          exact hh
        have hg2 : Goes H (idsD d k) (setN (stepH H d k) k.mid (.map (delEs k a) (delBs k a) k.ck)) (gF f ++ idsD d K1) := ⟨hg1.out, fun j hj => by
          rcases List.mem_append.1 hj with q | q
          · exact .inl (by unfold idsD; simp only [List.mem_cons]; exact .inr (.inr (List.mem_flatMap.2 ⟨f, hf, q⟩)))
          · exact hg1.ids j q, hg1.len⟩
        refine ⟨idsD d K2, ⟨K2, p1, ?_, ?_, rfl⟩, hg2.trans p2⟩
        · have hf2 : 0 ≤ f.kept ∧ f.kept ≤ f.bytes.length ∧ f.bytes.length ≤ 100000000 ∧ b.length ≤ 1000 := ⟨(hk f hf).1, (hk f hf).2.1, (hk f hf).2.2.1, hb⟩
          have hk1 : ∀ g ∈ K1.files, g ∈ k.files := by subst hK1; exact fun g hg => mem_eraseP hg
          intro g hg
          subst hK2
          simp only at hg
          split at hg
          · obtain ⟨g0, hg0, rfl⟩ := List.mem_map.1 hg
            split
            · exact hf2
            · exact hk g0 (hk1 g0 hg0)
          · rcases List.mem_append.1 hg with q | q
            · exact hk g (hk1 g q)
            · simp at q; subst q; exact hf2
        · have hfind : findM (plain k) a = some (pf f) := by rw [findM_plain, hl]; rfl
          unfold renameM
          rw [← hE]
          simp only [cond_false, cond_true, hfind]
          have hlk : ((K1.files.map pf).find? fun p => decide (b = p.name)) = (lookF K1 b).map pf := findM_plain K1 b
          subst hK2
          have h3 : K1.steps = k.steps + 1 ∧ K1.off = k.off ∧ K1.quota = k.quota := by subst hK1; exact ⟨rfl, rfl, rfl⟩
          simp only [plain, stepM, h3]
          refine congrArg (Ds.mk _ _ _) ?_
          unfold putP
          rw [← hfs, hlk, Option.isSome_map]
          cases (lookF K1 b).isSome with
          | true =>
            simp only [if_true]
            unfold putF
            rw [List.map_map, List.map_map]
            refine List.map_congr_left fun g _ => ?_
            by_cases e : g.name = b
            · simp [e, pf]
            · simp [e, pf]
          | false => simp [pf]
/-- Rename. -/
theorem a25 {H : Heap} {d : Nat} {m : Ds} {ids : List Nat} (h : DiskIs H d m ids) (ho : DsOK m) (a b : List UInt8) (hb : b.length ≤ 1000) :
    CallOK Try.prog 25 [.ptr d 0 0, .p (.str a), .p (.str b)] H (fun r H' => r = i64 (renameR m a b) ∧ ∃ ids', DiskIs H' d (renameM m a b) ids' ∧ Goes H ids H' ids') := by
  obtain ⟨k, h, hk, rfl, rfl⟩ := h
  have hs1 : k.steps < 1000000000000 := ho.s1
  refine (CallOK.of_spec (s25 H d k a b hb h ho.s0 (by omega))).mono (fun r H' hr => ?_)
  obtain ⟨rfl, rfl⟩ := hr
  exact ⟨by rw [renameE_plain], renameH_is h hk a b hb⟩
end Go.Proofs.Ytanknokhbfijdaa
