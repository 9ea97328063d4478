/- What functions of the disk, and of the laws over it, do. Conditions: those that each theorem names. -/
import Derived.Test.YtanknokhbfijdaaD8
import Derived.Test.YtanknokhbfijdaaKc
set_option linter.unusedVariables false
set_option linter.unusedSimpArgs false
namespace Go.Proofs.Ytanknokhbfijdaa
open Go.Ab
set_option maxRecDepth 100000
set_option maxHeartbeats 1000000

def gF (f : Fl) : List Nat := f.fid :: idsB f.bd
/-- What the disk owns. -/
def idsD (d : Nat) (k : Dk) : List Nat := d :: k.mid :: idsF k
theorem idsF_eq (k : Dk) : idsF k = k.files.flatMap gF := rfl
theorem idsB_nodup (d : D) : (idsB d).Nodup := by cases d <;> simp [idsB]
theorem bytesAt.lt {H : Heap} {d : D} {l : List UInt8} (h : bytesAt H d l) : ∀ j ∈ idsB d, j < H.length := by
  rcases h with ⟨rfl, rfl⟩ | ⟨id, rfl, h⟩ | ⟨id, st, rs, rfl, rfl, h⟩
  · intro j hj; simp [idsB] at hj
  · intro j hj; simp [idsB] at hj; subst hj; exact nth_lt h
  · intro j hj; simp [idsB] at hj; subst hj; exact nth_lt h.1
theorem DiskAt.gF_lt {H : Heap} {d : Nat} {k : Dk} (h : DiskAt H d k) {f : Fl} (hf : f ∈ k.files) : ∀ j ∈ gF f, j < H.length := by
  intro j hj
  rcases List.mem_cons.1 hj with rfl | hj
  · exact nth_lt (h.file f hf).1
  · exact (h.file f hf).2.lt j hj
theorem DiskAt.ids_lt {H : Heap} {d : Nat} {k : Dk} (h : DiskAt H d k) : ∀ j ∈ idsD d k, j < H.length := by
  intro j hj
  rcases List.mem_cons.1 hj with rfl | hj
  · exact nth_lt h.row
  rcases List.mem_cons.1 hj with rfl | hj
  · exact nth_lt h.map
  · obtain ⟨f, hf, hj⟩ := List.mem_flatMap.1 hj
    exact h.gF_lt hf j hj
theorem DiskAt.mapOK {H : Heap} {d : Nat} {k : Dk} (h : DiskAt H d k) : MapOK (k.files.map entF) k.bs k.ck := ⟨h.nodup, h.lt, by rw [h.len]; simp⟩
/-- The disk stands in another heap. -/
theorem DiskAt.move {H H' : Heap} {d : Nat} {k : Dk} (h : DiskAt H d k) (hh : ∀ j ∈ idsD d k, ∀ o, nth H j = some o → nth H' j = some o) : DiskAt H' d k where
  row := hh _ (by simp [idsD]) _ h.row
  map := hh _ (by simp [idsD]) _ h.map
  file f hf := ⟨hh _ (by simp [idsD]; exact .inr (.inr (idsF_fid hf))) _ (h.file f hf).1, (h.file f hf).2.mono (fun i hi o ho => hh i (by simp [idsD]; exact .inr (.inr (idsF_bd hf hi))) o ho)⟩
  nodup := h.nodup
  lt := h.lt
  len := h.len
  names := h.names
  ids := h.ids
theorem DiskAt.step {H : Heap} {d : Nat} {k : Dk} (h : DiskAt H d k) : DiskAt (stepH H d k) d { k with steps := k.steps + 1 } := h.setRow (k.steps + 1) k.off
theorem Goes.step (H : Heap) (d : Nat) (k : Dk) : Goes H (idsD d k) (stepH H d k) (idsD d k) := Goes.set (by simp [idsD])

def putF (l : List Fl) (f' : Fl) : List Fl := l.map fun f => if f.name = f'.name then f' else f
theorem putF_mid {l1 l2 : List Fl} {f f' : Fl} (hn : ((l1 ++ f :: l2).map (·.name)).Nodup) (h : f'.name = f.name) : putF (l1 ++ f :: l2) f' = l1 ++ f' :: l2 := by
  rw [List.map_append, List.map_cons, List.nodup_append, List.nodup_cons] at hn
  have h1 : ∀ g ∈ l1, g.name ≠ f.name := fun g hg => hn.2.2 _ (List.mem_map.2 ⟨g, hg, rfl⟩) _ List.mem_cons_self
  have h2 : ∀ g ∈ l2, g.name ≠ f.name := fun g hg e => hn.2.1.1 (by rw [← e]; exact List.mem_map.2 ⟨g, hg, rfl⟩)
  unfold putF
  rw [List.map_append, List.map_cons, h]
  have e1 : (l1.map fun g => if g.name = f.name then f' else g) = l1 := by
    conv => rhs; rw [← List.map_id l1]
    exact List.map_congr_left fun g hg => by simp [h1 g hg]
  have e2 : (l2.map fun g => if g.name = f.name then f' else g) = l2 := by
    conv => rhs; rw [← List.map_id l2]
    exact List.map_congr_left fun g hg => by simp [h2 g hg]
  rw [e1, e2]; simp
theorem map_putF {l : List Fl} {f f' : Fl} {α : Type} (hn : (l.map (·.name)).Nodup) (hf : f ∈ l) (h : f'.name = f.name) (g : Fl → α) (hg : g f' = g f) : (putF l f').map g = l.map g := by
  obtain ⟨l1, l2, rfl⟩ := List.append_of_mem hf
  rw [putF_mid hn h]; simp [hg]
theorem DiskAt.apart {H : Heap} {d : Nat} {k : Dk} (h : DiskAt H d k) {f g : Fl} (hf : f ∈ k.files) (hg : g ∈ k.files) (hn : f.name ≠ g.name) : ∀ j ∈ gF f, j ∉ gF g := by
  have h1 := h.ids
  simp only [List.nodup_cons] at h1
  exact flat_apart h1.2.2 hf hg (fun e => hn (by rw [e]))

/-- One file turned. -/
theorem DiskAt.setFile {H H' : Heap} {d : Nat} {k : Dk} (h : DiskAt H d k) {f : Fl} (hf : f ∈ k.files) (f' : Fl) (hn : f'.name = f.name) (hfid : f'.fid = f.fid)
    (row : nth H' f.fid = some (.rows [[f'.bd, i64 f'.kept]])) (hb : bytesAt H' f'.bd f'.bytes) (out : ∀ j o, j ∉ gF f → nth H j = some o → nth H' j = some o)
    (new : ∀ j ∈ idsB f'.bd, j ∈ idsB f.bd ∨ H.length ≤ j) (len : H.length ≤ H'.length) :
    DiskAt H' d { k with files := putF k.files f' } ∧ Goes H (idsD d k) H' (idsD d { k with files := putF k.files f' }) := by
  obtain ⟨l1, l2, hsplit⟩ := List.append_of_mem hf
  have hput : putF k.files f' = l1 ++ f' :: l2 := by rw [hsplit]; exact putF_mid (hsplit ▸ h.names) hn
  have hids : (d :: k.mid :: l1.flatMap gF ++ (gF f ++ l2.flatMap gF)).Nodup := by
    have := h.ids
    rw [idsF_eq, hsplit, List.flatMap_append, List.flatMap_cons] at this
    exact this
  have hin : ∀ j, j ∈ (d :: k.mid :: l1.flatMap gF) ∨ j ∈ l2.flatMap gF → j < H.length := by
    intro j hj
    refine h.ids_lt j ?_
    unfold idsD
    rw [idsF_eq, hsplit, List.flatMap_append, List.flatMap_cons]
    rcases hj with hj | hj
    · rcases List.mem_cons.1 hj with rfl | hj
      · simp
      rcases List.mem_cons.1 hj with rfl | hj
      · simp
      · simp only [List.mem_cons, List.mem_append]; exact .inr (.inr (.inl hj))
    · simp only [List.mem_cons, List.mem_append]; exact .inr (.inr (.inr (.inr hj)))
  have hdm : d ∉ gF f ∧ k.mid ∉ gF f := by
    have h1 := h.ids
    simp only [List.nodup_cons, List.mem_cons, not_or] at h1
    exact ⟨fun e => h1.1.2 (List.mem_flatMap.2 ⟨f, hf, e⟩), fun e => h1.2.1 (List.mem_flatMap.2 ⟨f, hf, e⟩)⟩
  have hnew : (gF f').Nodup := by
    refine List.nodup_cons.2 ⟨fun e => ?_, idsB_nodup _⟩
    rw [hfid] at e
    rcases new _ e with q | q
    · exact h.f_b hf q rfl
    · have := nth_lt (h.file f hf).1; omega
  have hids' : (d :: k.mid :: l1.flatMap gF ++ (gF f' ++ l2.flatMap gF)).Nodup := by
    refine nodup_mid hids hnew (fun j hj => ?_)
    rcases List.mem_cons.1 hj with rfl | hj
    · rw [hfid]; exact .inl List.mem_cons_self
    · rcases new j hj with q | q
      · exact .inl (List.mem_cons_of_mem _ q)
      · exact .inr ⟨fun e => by have := hin j (.inl e); omega, fun e => by have := hin j (.inr e); omega⟩
  refine ⟨⟨out _ _ hdm.1 h.row, ?_, fun g hg => ?_, h.nodup, h.lt, ?_, ?_, ?_⟩, ⟨fun j o hj ho => out j o (fun e => hj ?_) ho, fun j hj => ?_, len⟩⟩
  · rw [map_putF h.names hf hn entF (by simp [entF, hn, hfid])]
    exact out _ _ hdm.2 h.map
  · simp only [hput] at hg
    have hcase : g = f' ∨ (g ∈ k.files ∧ ∀ j ∈ gF g, j ∉ gF f) := by
      rcases List.mem_append.1 hg with q | q
      · refine .inr ⟨by rw [hsplit]; exact List.mem_append_left _ q, fun j hj hj' => ?_⟩
        have h1 := List.nodup_append.1 hids
        exact h1.2.2 j (by simp only [List.mem_cons]; exact .inr (.inr (List.mem_flatMap.2 ⟨g, q, hj⟩))) j (List.mem_append_left _ hj') rfl
      rcases List.mem_cons.1 q with rfl | q
      · exact .inl rfl
      · refine .inr ⟨by rw [hsplit]; exact List.mem_append_right _ (List.mem_cons_of_mem _ q), fun j hj hj' => ?_⟩
        have h1 := List.nodup_append.1 (List.nodup_append.1 hids).2.1
        exact h1.2.2 j hj' j (List.mem_flatMap.2 ⟨g, q, hj⟩) rfl
    rcases hcase with rfl | ⟨hgk, hap⟩
    · rw [hfid]; exact ⟨row, hb⟩
    · have hg2 := h.file g hgk
      exact ⟨out _ _ (hap _ List.mem_cons_self) hg2.1, hg2.2.mono (fun i hi o ho => out i o (hap i (List.mem_cons_of_mem _ hi)) ho)⟩
  · rw [h.len]; simp [putF]
  · rw [map_putF h.names hf hn _ hn]; exact h.names
  · rw [idsF_eq, hput, List.flatMap_append, List.flatMap_cons]; exact hids'
  · unfold idsD; simp only [List.mem_cons]; exact .inr (.inr (List.mem_flatMap.2 ⟨f, hf, e⟩))
  · unfold idsD at hj ⊢
    rw [idsF_eq, hput, List.flatMap_append, List.flatMap_cons] at hj
    rw [idsF_eq, hsplit, List.flatMap_append, List.flatMap_cons]
    simp only [List.mem_cons, List.mem_append] at hj ⊢
    rcases hj with q | q | q | q | q
    · exact .inl (.inl q)
    · exact .inl (.inr (.inl q))
    · exact .inl (.inr (.inr (.inl q)))
    · rcases List.mem_cons.1 q with rfl | q
      · rw [hfid]; exact .inl (.inr (.inr (.inr (.inl List.mem_cons_self))))
      · rcases new j q with r | r
        · exact .inl (.inr (.inr (.inr (.inl (List.mem_cons_of_mem _ r)))))
        · exact .inr r
    · exact .inl (.inr (.inr (.inr (.inr q))))

theorem DiskAt.sync {H : Heap} {d : Nat} {k : Dk} (h : DiskAt H d k) {f : Fl} (hf : f ∈ k.files) :
    DiskAt (setN H f.fid (.rows [[f.bd, i64 f.bytes.length]])) d { k with files := putF k.files { f with kept := f.bytes.length } } ∧
    Goes H (idsD d k) (setN H f.fid (.rows [[f.bd, i64 f.bytes.length]])) (idsD d { k with files := putF k.files { f with kept := f.bytes.length } }) := by
  refine h.setFile hf _ rfl rfl (nth_setN_same (h.file f hf).1) ((h.file f hf).2.mono fun i hi o ho => nth_setN_ne (fun e => h.f_b hf hi e.symm) ho) (fun j o hj ho => nth_setN_ne (fun e => hj (by rw [← e]; exact List.mem_cons_self)) ho)
    (fun j hj => .inl hj) (by simp [setN_length])
theorem DiskAt.more {H : Heap} {d : Nat} {k : Dk} (h : DiskAt H d k) {f : Fl} (hf : f ∈ k.files) (b : List UInt8) :
    DiskAt (moreH H f b) d { k with files := putF k.files { f with bd := (moreHB H f.bd f.bytes b).2, bytes := f.bytes ++ b } } ∧
    Goes H (idsD d k) (moreH H f b) (idsD d { k with files := putF k.files { f with bd := (moreHB H f.bd f.bytes b).2, bytes := f.bytes ++ b } }) := by
  have hfr := (h.file f hf).1
  have hlt := nth_lt hfr
  unfold moreH
  rcases (h.file f hf).2 with ⟨hbd, hbl⟩ | ⟨id, hbd, hrow⟩ | ⟨id, st, rs, hbd, hbl, hrow, hst⟩
  · have e : moreHB H f.bd f.bytes b = (H ++ [.rows (b.map byteRowD)], .own H.length 1 0 b.length none) := by rw [hbd]; rfl
    rw [e]
    refine h.setFile hf _ rfl rfl (nth_setN_same (nth_app hfr)) ?_ (fun j o hj ho => nth_setN_ne (fun e => hj (by rw [← e]; exact List.mem_cons_self)) (nth_app ho)) (fun j hj => ?_) (by simp [setN_length])
    · exact .inr (.inl ⟨H.length, by simp [hbl], by rw [hbl]; exact nth_setN_ne (by omega) (nth_new rfl)⟩)
    · simp [idsB] at hj; omega
  · have e : moreHB H f.bd f.bytes b = (setN H id .gone ++ [.rows ((f.bytes ++ b).map byteRowD)], .own H.length 1 0 (f.bytes.length + b.length) none) := by rw [hbd]; rfl
    have hne := h.f_b hf (i := id) (by rw [hbd]; simp [idsB])
    rw [e]
    refine h.setFile hf _ rfl rfl (nth_setN_same (nth_app (nth_setN_ne hne hfr))) ?_ (fun j o hj ho => nth_setN_ne (fun e => hj (by rw [← e]; exact List.mem_cons_self)) (nth_app (nth_setN_ne (fun e => hj (by rw [← e]; exact List.mem_cons_of_mem _ (by rw [hbd]; simp [idsB]))) ho))) (fun j hj => ?_) (by simp [setN_length])
    · exact .inr (.inl ⟨H.length, by simp, nth_setN_ne (by omega) (nth_new (by simp [setN_length]))⟩)
    · simp [idsB] at hj; omega
  · cases hb : b.isEmpty with
    | true =>
      have hb0 : b = [] := by cases b <;> simp_all
      subst hb0
      have e : moreHB H f.bd f.bytes [] = (H, .own id 1 st 0 (some 0)) := by rw [hbd]; rfl
      have hne := h.f_b hf (i := id) (by rw [hbd]; simp [idsB])
      rw [e]
      refine h.setFile hf _ rfl rfl (nth_setN_same hfr) (.inr (.inr ⟨id, st, rs, rfl, by simp [hbl], nth_setN_ne (fun e => hne e.symm) hrow, hst⟩)) (fun j o hj ho => nth_setN_ne (fun e => hj (by rw [← e]; exact List.mem_cons_self)) ho) (fun j hj => .inl (by rw [hbd]; exact hj)) (by simp [setN_length])
    | false =>
      have e : moreHB H f.bd f.bytes b = (H ++ [.rows (b.map byteRowD)], .own H.length 1 0 b.length none) := by rw [hbd]; simp [moreHB, hb]
      rw [e]
      refine h.setFile hf _ rfl rfl (nth_setN_same (nth_app hfr)) ?_ (fun j o hj ho => nth_setN_ne (fun e => hj (by rw [← e]; exact List.mem_cons_self)) (nth_app ho)) (fun j hj => ?_) (by simp [setN_length])
      · exact .inr (.inl ⟨H.length, by simp [hbl], by rw [hbl]; exact nth_setN_ne (by omega) (nth_new rfl)⟩)
      · simp [idsB] at hj; omega
end Go.Proofs.Ytanknokhbfijdaa
