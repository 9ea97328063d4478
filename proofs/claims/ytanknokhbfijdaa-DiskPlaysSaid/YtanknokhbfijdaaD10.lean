/- What functions of the disk, and of the laws over it, do. Conditions: those that each theorem names. -/
import Derived.Test.YtanknokhbfijdaaD9
set_option linter.unusedVariables false
set_option linter.unusedSimpArgs false
namespace Go.Proofs.Ytanknokhbfijdaa
open Go.Ab
set_option maxRecDepth 100000
set_option maxHeartbeats 1000000

theorem lookF_split {k : Dk} {name : List UInt8} {f : Fl} (h : lookF k name = some f) : f.name = name ∧ ∃ l1 l2, k.files = l1 ++ f :: l2 ∧ (k.files.eraseP fun f => decide (name = f.name)) = l1 ++ l2 ∧ ∀ g ∈ l1, g.name ≠ name := by
  unfold lookF at h
  obtain ⟨h1, l1, l2, h2, h3⟩ := List.find?_eq_some_iff_append.1 h
  simp at h1
  refine ⟨h1.symm, l1, l2, h2, ?_, fun g hg e => by have := h3 g hg; simp [e] at this⟩
  rw [h2, List.eraseP_append_right _ (fun g hg => by have := h3 g hg; simpa using this), List.eraseP_cons_of_pos (by simpa using h1)]
theorem lookF_none {k : Dk} {name : List UInt8} (h : lookF k name = none) : ∀ f ∈ k.files, f.name ≠ name := by
  unfold lookF at h
  intro f hf e
  have := List.find?_eq_none.1 h f hf
  simp [e] at this
theorem bytesAt_nil (H : Heap) : bytesAt H (.p .nil) [] := .inl ⟨rfl, rfl⟩

def newF (H : Heap) (name b : List UInt8) : Fl := ⟨name, H.length, .own (H.length + 1) 1 0 b.length none, b, 0⟩
/-- A file more. -/
theorem DiskAt.new {H : Heap} {d : Nat} {k : Dk} (h : DiskAt H d k) {name b : List UInt8} (hl : lookF k name = none) :
    ∃ k', k' = { k with files := k.files ++ [newF H name b], bs := updB (k.files.map entF) (.str name) k.bs k.ck, ck := updC (k.files.map entF) (.str name) k.ck } ∧
      DiskAt (newH H k name b) d k' ∧ Goes H (idsD d k) (newH H k name b) (idsD d k') := by
  refine ⟨_, rfl, ?_⟩
  have hdm := h.d_m
  have hmlt := nth_lt h.map
  have hdlt := nth_lt h.row
  have hlen : (newH H k name b).length = H.length + 2 := by simp [newH, setN_length]
  have hold : ∀ j o, j ≠ k.mid → nth H j = some o → nth (newH H k name b) j = some o := fun j o hj ho =>
    nth_setN_ne (by have := nth_lt ho; omega) (nth_app (nth_setN_ne (fun e => hj e.symm) (nth_app ho)))
  have hes : updE (k.files.map entF) (.str name) (.ptr H.length 0 0) = (k.files ++ [newF H name b]).map entF := by
    have := updE_str_new k.files (·.name) (fun f => .ptr f.fid 0 0) name (.ptr H.length 0 0) hl
    rw [List.map_append]
    exact this
  have hmap : nth (newH H k name b) k.mid = some (.map ((k.files ++ [newF H name b]).map entF) (updB (k.files.map entF) (.str name) k.bs k.ck) (updC (k.files.map entF) (.str name) k.ck)) := by
    rw [← hes]
    exact nth_setN_ne (by omega) (nth_app (nth_setN_same (nth_app h.map)))
  have hok : MapOK ((k.files ++ [newF H name b]).map entF) (updB (k.files.map entF) (.str name) k.bs k.ck) (updC (k.files.map entF) (.str name) k.ck) := by
    rw [← hes]; exact h.mapOK.upd _ _
  refine ⟨⟨hold _ _ hdm h.row, hmap, fun f hf => ?_, hok.nodup, hok.lt, by rw [hok.len]; simp, ?_, ?_⟩, ⟨fun j o hj ho => hold j o (fun e => hj (by rw [e]; simp [idsD])) ho, fun j hj => ?_, by omega⟩⟩
  · rcases List.mem_append.1 hf with hf | hf
    · have h1 := h.file f hf
      exact ⟨hold _ _ (fun e => h.ne_m hf e.symm) h1.1, h1.2.mono fun i hi o ho => hold i o (fun e => h.m_out (idsF_bd hf hi) e.symm) ho⟩
    · simp at hf; subst hf
      refine ⟨nth_setN_same (nth_app (nth_setN_ne (by omega) (nth_new rfl))), .inr (.inl ⟨H.length + 1, rfl, nth_setN_ne (by omega) (nth_new (by simp [setN_length]))⟩)⟩
  · rw [List.map_append]
    refine List.nodup_append.2 ⟨h.names, by simp, fun a ha c hc => ?_⟩
    obtain ⟨f, hf, rfl⟩ := List.mem_map.1 ha
    simp at hc; subst hc
    exact lookF_none hl f hf
  · have e : idsF { k with files := k.files ++ [newF H name b], bs := updB (k.files.map entF) (.str name) k.bs k.ck, ck := updC (k.files.map entF) (.str name) k.ck } = idsF k ++ [H.length, H.length + 1] := by
      simp [idsF_eq, gF, idsB, newF]
    rw [e]
    show ((idsD d k) ++ [H.length, H.length + 1]).Nodup
    refine List.nodup_append.2 ⟨h.ids, by simp, fun a ha c hc => ?_⟩
    have := h.ids_lt a ha
    simp at hc; omega
  · unfold idsD at hj ⊢
    simp only [idsF_eq, List.flatMap_append] at hj ⊢
    simp only [List.mem_cons, List.mem_append] at hj ⊢
    rcases hj with q | q | q | q
    · exact .inl (.inl q)
    · exact .inl (.inr (.inl q))
    · exact .inl (.inr (.inr q))
    · simp [gF, idsB, newF] at q; omega

theorem names_mid {l1 l2 : List Fl} {f : Fl} (h : ((l1 ++ f :: l2).map (·.name)).Nodup) : ((l1 ++ l2).map (·.name)).Nodup ∧ ∀ g ∈ l1 ++ l2, g.name ≠ f.name := by
  simp only [List.map_append, List.map_cons, List.nodup_append, List.nodup_cons] at h
  obtain ⟨h1, ⟨h2, h3⟩, h4⟩ := h
  refine ⟨?_, fun g hg e => ?_⟩
  · simp only [List.map_append, List.nodup_append]
    exact ⟨h1, h3, fun a ha b hb => h4 a ha b (List.mem_cons_of_mem _ hb)⟩
  · rcases List.mem_append.1 hg with q | q
    · exact h4 _ (List.mem_map.2 ⟨g, q, rfl⟩) _ List.mem_cons_self e
    · exact h2 (by rw [← e]; exact List.mem_map.2 ⟨g, q, rfl⟩)
theorem delEs_eq (k : Dk) (name : List UInt8) : delEs k name = (k.files.eraseP fun f => decide (name = f.name)).map entF := delE_str k.files (fun f : Fl => f.name) (fun f => .ptr f.fid 0 0) name

/-- A file less. -/
theorem DiskAt.del {H : Heap} {d : Nat} {k : Dk} (h : DiskAt H d k) {name : List UInt8} {f : Fl} (hl : lookF k name = some f) :
    DiskAt (setN H k.mid (.map (delEs k name) (delBs k name) k.ck)) d { k with files := k.files.eraseP fun f => decide (name = f.name), bs := delBs k name } ∧
    Goes H (idsD d k) (setN H k.mid (.map (delEs k name) (delBs k name) k.ck)) (idsD d { k with files := k.files.eraseP fun f => decide (name = f.name), bs := delBs k name }) := by
  obtain ⟨hname, l1, l2, hsplit, her, _⟩ := lookF_split hl
  have hok : MapOK (delEs k name) (delBs k name) k.ck := h.mapOK.del _
  have hsub : ∀ g ∈ l1 ++ l2, g ∈ k.files := fun g hg => by
    rw [hsplit]; rcases List.mem_append.1 hg with q | q
    · exact List.mem_append_left _ q
    · exact List.mem_append_right _ (List.mem_cons_of_mem _ q)
  have hids : (d :: k.mid :: l1.flatMap gF ++ (gF f ++ l2.flatMap gF)).Nodup := by
    have := h.ids
    rw [idsF_eq, hsplit, List.flatMap_append, List.flatMap_cons] at this
    exact this
  have hids' := nodup_mid (x' := []) hids List.nodup_nil (fun j hj => by cases hj)
  refine ⟨⟨nth_setN_ne (fun e => h.d_m e.symm) h.row, ?_, fun g hg => ?_, hok.nodup, hok.lt, ?_, ?_, ?_⟩, ⟨fun j o hj ho => nth_setN_ne (fun e => hj (by rw [← e]; simp [idsD])) ho, fun j hj => .inl ?_, by simp [setN_length]⟩⟩
  · rw [← delEs_eq]; exact nth_setN_same h.map
  · simp only [her] at hg
    have hgk := hsub g hg
    have h1 := h.file g hgk
    exact ⟨nth_setN_ne (h.ne_m hgk) h1.1, h1.2.mono fun i hi o ho => nth_setN_ne (h.m_out (idsF_bd hgk hi)) ho⟩
  · rw [hok.len, delEs_eq]; simp
  · simp only [her]; exact (names_mid (hsplit ▸ h.names)).1
  · rw [idsF_eq]; simp only [her]; rw [List.flatMap_append]; simpa using hids'
  · unfold idsD at hj ⊢
    rw [idsF_eq] at hj ⊢
    simp only [her] at hj
    rw [hsplit]
    simp only [List.flatMap_append, List.flatMap_cons, List.mem_cons, List.mem_append] at hj ⊢
    rcases hj with q | q | q | q
    · exact .inl q
    · exact .inr (.inl q)
    · exact .inr (.inr (.inl q))
    · exact .inr (.inr (.inr (.inr q)))

/-- A file that stood apart comes in under a name: in another's place, or behind. -/
theorem DiskAt.put {H : Heap} {d : Nat} {k : Dk} (h : DiskAt H d k) (f : Fl) (hf : nth H f.fid = some (.rows [[f.bd, i64 f.kept]]) ∧ bytesAt H f.bd f.bytes) (hg : (gF f).Nodup) (hout : ∀ j ∈ gF f, j ∉ idsD d k) :
    let H' := setN H k.mid (.map (updE (k.files.map entF) (.str f.name) (.ptr f.fid 0 0)) (updB (k.files.map entF) (.str f.name) k.bs k.ck) (updC (k.files.map entF) (.str f.name) k.ck))
    let k' : Dk := { k with files := if (lookF k f.name).isSome then putF k.files f else k.files ++ [f], bs := updB (k.files.map entF) (.str f.name) k.bs k.ck, ck := updC (k.files.map entF) (.str f.name) k.ck }
    DiskAt H' d k' ∧ Goes H (gF f ++ idsD d k) H' (idsD d k') := by
  intro H' k'
  have hok : MapOK (updE (k.files.map entF) (.str f.name) (.ptr f.fid 0 0)) (updB (k.files.map entF) (.str f.name) k.bs k.ck) (updC (k.files.map entF) (.str f.name) k.ck) := h.mapOK.upd _ _
  have hmf : ∀ j ∈ gF f, k.mid ≠ j := fun j hj e => hout j hj (by rw [← e]; simp [idsD])
  have hfile : nth H' f.fid = some (.rows [[f.bd, i64 f.kept]]) ∧ bytesAt H' f.bd f.bytes :=
    ⟨nth_setN_ne (hmf _ List.mem_cons_self) hf.1, hf.2.mono fun i hi o ho => nth_setN_ne (hmf _ (List.mem_cons_of_mem _ hi)) ho⟩
  have hfold : ∀ g ∈ k.files, nth H' g.fid = some (.rows [[g.bd, i64 g.kept]]) ∧ bytesAt H' g.bd g.bytes := fun g hgk =>
    ⟨nth_setN_ne (h.ne_m hgk) (h.file g hgk).1, (h.file g hgk).2.mono fun i hi o ho => nth_setN_ne (h.m_out (idsF_bd hgk hi)) ho⟩
  have hgoes : Goes H (idsD d k) H' (idsD d k) := Goes.set (by simp [idsD])
  cases hl : lookF k f.name with
  | none =>
    have hk' : k'.files = k.files ++ [f] := by simp [k', hl]
    have hes : updE (k.files.map entF) (.str f.name) (.ptr f.fid 0 0) = (k.files ++ [f]).map entF := by
      have := updE_str_new k.files (·.name) (fun f => .ptr f.fid 0 0) f.name (.ptr f.fid 0 0) hl
      rw [List.map_append]; exact this
    have e : idsD d k' = idsD d k ++ gF f := by unfold idsD; rw [idsF_eq, hk', List.flatMap_append]; simp [idsF_eq, k']
    refine ⟨⟨nth_setN_ne (fun e => h.d_m e.symm) h.row, ?_, fun g hgk => ?_, hok.nodup, hok.lt, ?_, ?_, ?_⟩, ⟨fun j o hj ho => hgoes.out j o (fun e => hj (List.mem_append_right _ e)) ho, fun j hj => .inl ?_, hgoes.len⟩⟩
    · rw [hk', ← hes]; exact nth_setN_same h.map
    · rw [hk'] at hgk
      rcases List.mem_append.1 hgk with q | q
      · exact hfold g q
      · simp at q; subst q; exact hfile
    · rw [hk']; exact (hok.len.trans (by rw [hes]; simp))
    · rw [hk', List.map_append]
      refine List.nodup_append.2 ⟨h.names, by simp, fun a ha c hc => ?_⟩
      obtain ⟨g, hgk, rfl⟩ := List.mem_map.1 ha
      simp at hc; subst hc
      exact lookF_none hl g hgk
    · show (idsD d k').Nodup
      rw [e]
      exact List.nodup_append.2 ⟨h.ids, hg, fun a ha c hc e => hout c hc (e ▸ ha)⟩
    · rw [e] at hj
      rcases List.mem_append.1 hj with q | q
      · exact List.mem_append_right _ q
      · exact List.mem_append_left _ q
  | some g0 =>
    obtain ⟨hname, l1, l2, hsplit, her, _⟩ := lookF_split hl
    have hput : putF k.files f = l1 ++ f :: l2 := by rw [hsplit]; exact putF_mid (hsplit ▸ h.names) hname.symm
    have hk' : k'.files = l1 ++ f :: l2 := by simp only [k', hl, Option.isSome_some, if_true]; exact hput
    have hes : updE (k.files.map entF) (.str f.name) (.ptr f.fid 0 0) = (l1 ++ f :: l2).map entF := by
      have h1 := updE_str_old (fun g : Fl => g.name) (fun g => .ptr g.fid 0 0) f.name (.ptr f.fid 0 0) k.files h.names ⟨g0, lookF_mem hl, hname.symm⟩
      refine Eq.trans h1 ?_
      rw [← hput]
      unfold putF
      rw [List.map_map]
      refine List.map_congr_left fun g hgk => ?_
      by_cases hgn : g.name = f.name
      · simp [entF, hgn]
      · simp [entF, hgn, Ne.symm hgn]
    have hids : (d :: k.mid :: l1.flatMap gF ++ (gF g0 ++ l2.flatMap gF)).Nodup := by
      have := h.ids
      rw [idsF_eq, hsplit, List.flatMap_append, List.flatMap_cons] at this
      exact this
    have hside : ∀ j, j ∈ (d :: k.mid :: l1.flatMap gF) ∨ j ∈ l2.flatMap gF → j ∈ idsD d k := by
      intro j hj
      unfold idsD
      rw [idsF_eq, hsplit, List.flatMap_append, List.flatMap_cons]
      simp only [List.mem_cons, List.mem_append] at hj ⊢
      rcases hj with (q | q | q) | q
      · exact .inl q
      · exact .inr (.inl q)
      · exact .inr (.inr (.inl q))
      · exact .inr (.inr (.inr (.inr q)))
    have hids' := nodup_mid hids hg (fun j hj => .inr ⟨fun e => hout j hj (hside j (.inl e)), fun e => hout j hj (hside j (.inr e))⟩)
    refine ⟨⟨nth_setN_ne (fun e => h.d_m e.symm) h.row, ?_, fun g hgk => ?_, hok.nodup, hok.lt, ?_, ?_, ?_⟩, ⟨fun j o hj ho => hgoes.out j o (fun e => hj (List.mem_append_right _ e)) ho, fun j hj => .inl ?_, hgoes.len⟩⟩
    · rw [hk', ← hes]; exact nth_setN_same h.map
    · rw [hk'] at hgk
      rcases List.mem_append.1 hgk with q | q
      · exact hfold g (by rw [hsplit]; exact List.mem_append_left _ q)
      · rcases List.mem_cons.1 q with rfl | q
        · exact hfile
        · exact hfold g (by rw [hsplit]; exact List.mem_append_right _ (List.mem_cons_of_mem _ q))
    · rw [hk']; exact (hok.len.trans (by rw [hes]; simp))
    · rw [hk']
      have := h.names
      rw [hsplit] at this
      simpa [hname] using this
    · rw [idsF_eq, hk', List.flatMap_append, List.flatMap_cons]; exact hids'
    · unfold idsD at hj
      rw [idsF_eq, hk', List.flatMap_append, List.flatMap_cons] at hj
      simp only [List.mem_cons, List.mem_append] at hj ⊢
      rcases hj with q | q | q | q | q
      · exact .inr (hside j (.inl (by simp [q])))
      · exact .inr (hside j (.inl (by rw [q]; exact List.mem_cons_of_mem _ List.mem_cons_self)))
      · exact .inr (hside j (.inl (List.mem_cons_of_mem _ (List.mem_cons_of_mem _ q))))
      · exact .inl q
      · exact .inr (hside j (.inr q))
end Go.Proofs.Ytanknokhbfijdaa
