/- What functions of the disk, and of the laws over it, do. Conditions: those that each theorem names. -/
import Derived.Test.YtanknokhbfijdaaD75
set_option linter.unusedVariables false
set_option linter.unusedSimpArgs false
namespace Go.Proofs.Ytanknokhbfijdaa
open Go.Ab
set_option maxRecDepth 100000
set_option maxHeartbeats 1000000
theorem nodup_get {l : List Nat} : l.Nodup ↔ ∀ i j : Nat, i < j → j < l.length → l[i]? ≠ l[j]? := by
  unfold List.Nodup
  rw [List.pairwise_iff_getElem]
  constructor
  · intro h i j hij hj
    rw [List.getElem?_eq_getElem (by omega), List.getElem?_eq_getElem hj]
    simpa using h i j (by omega) hj hij
  · intro h i j hi hj hij
    have := h i j hij hj
    rw [List.getElem?_eq_getElem hi, List.getElem?_eq_getElem hj] at this
    simpa using this
def idsR (r fid : Nat) (fs : List RFl) : List Nat := r :: fid :: fs.map (·.bid)
theorem RAt.lt {H : Heap} {r fid : Nat} {fs : List RFl} {q s p : Int} {o : Bool} (h : RAt H r fid fs q s p o) : ∀ j ∈ idsR r fid fs, j < H.length := by
  intro j hj
  unfold idsR at hj
  rcases List.mem_cons.1 hj with e | hj
  · rw [e]; exact nth_lt h.row
  rcases List.mem_cons.1 hj with e | hj
  · rw [e]; exact nth_lt h.rows
  · obtain ⟨f, hf, rfl⟩ := List.mem_map.1 hj
    exact nth_lt (h.bytes f hf)
theorem RAt.move {H H' : Heap} {r fid : Nat} {fs : List RFl} {q s p : Int} {o : Bool} (h : RAt H r fid fs q s p o) (g : ∀ j ∈ idsR r fid fs, ∀ x, nth H j = some x → nth H' j = some x) : RAt H' r fid fs q s p o :=
  ⟨g r (List.mem_cons_self ..) _ h.row, g fid (List.mem_cons_of_mem _ (List.mem_cons_self ..)) _ h.rows, fun f hf => g _ (List.mem_cons_of_mem _ (List.mem_cons_of_mem _ (List.mem_map.2 ⟨f, hf, rfl⟩))) _ (h.bytes f hf), h.ids⟩
theorem RAt.r_fid {H : Heap} {r fid : Nat} {fs : List RFl} {q s p : Int} {o : Bool} (h : RAt H r fid fs q s p o) : r ≠ fid := by
  have := h.ids; simp at this; exact fun e => this.1.1 e
theorem RAt.r_bid {H : Heap} {r fid : Nat} {fs : List RFl} {q s p : Int} {o : Bool} (h : RAt H r fid fs q s p o) {f : RFl} (hf : f ∈ fs) : r ≠ f.bid ∧ fid ≠ f.bid := by
  have := h.ids
  rw [List.nodup_cons, List.nodup_cons] at this
  exact ⟨fun e => this.1 (List.mem_cons_of_mem _ (List.mem_map.2 ⟨f, hf, e.symm⟩)), fun e => this.2.1 (List.mem_map.2 ⟨f, hf, e.symm⟩)⟩
theorem RAt.bids {H : Heap} {r fid : Nat} {fs : List RFl} {q s p : Int} {o : Bool} (h : RAt H r fid fs q s p o) : (fs.map (·.bid)).Nodup := by
  have := h.ids
  rw [List.nodup_cons, List.nodup_cons] at this
  exact this.2.2
/-- Its row is set. -/
theorem RAt.setRow {H : Heap} {r fid : Nat} {fs : List RFl} {q s p : Int} {o : Bool} (h : RAt H r fid fs q s p o) (s' p' : Int) (o' : Bool) : RAt (setN H r (rRow fid fs.length q s' p' o')) r fid fs q s' p' o' :=
  ⟨nth_setN_same h.row, nth_setN_ne h.r_fid h.rows, fun f hf => nth_setN_ne (h.r_bid hf).1 (h.bytes f hf), h.ids⟩
theorem map_set_rowF (fs : List RFl) (i : Nat) (f' : RFl) : setN (fs.map rowF) i (rowF f') = (fs.set i f').map rowF := by rw [setN_eq, List.map_set]
/-- A file's count of what is kept is set. -/
theorem RAt.setKept {H : Heap} {r fid : Nat} {fs : List RFl} {q s p : Int} {o : Bool} (h : RAt H r fid fs q s p o) {i : Nat} {f : RFl} (hf : fs[i]? = some f) (k : Nat) :
    RAt (setN H fid (.rows ((fs.set i { f with kept := k }).map rowF))) r fid (fs.set i { f with kept := k }) q s p o := by
  have hfm := List.mem_of_getElem? hf
  have hb : (fs.set i { f with kept := k }).map (·.bid) = fs.map (·.bid) := by
    rw [List.map_set]
    apply List.ext_getElem?
    intro j
    by_cases e : i = j
    · subst e; rw [List.getElem?_set_self (by simpa using (List.getElem?_eq_some_iff.1 hf).1), List.getElem?_map, hf]; rfl
    · rw [List.getElem?_set_ne e]
  refine ⟨nth_setN_ne (fun e => h.r_fid e.symm) (by rw [List.length_set]; exact h.row), nth_setN_same h.rows, fun g hg => ?_, by rw [hb]; exact h.ids⟩
  rcases List.mem_or_eq_of_mem_set hg with e | e
  · exact nth_setN_ne (h.r_bid e).2 (h.bytes g e)
  · subst e
    exact nth_setN_ne (h.r_bid hfm).2 (h.bytes f hfm)
/-- A file's bytes are set anew. -/
theorem RAt.setBytes {H : Heap} {r fid : Nat} {fs : List RFl} {q s p : Int} {o : Bool} (h : RAt H r fid fs q s p o) {i : Nat} {f : RFl} (hf : fs[i]? = some f) (b : List UInt8) (k : Nat) {X : Heap}
    (hX : X.length = H.length) (hXe : ∀ j x, j ≠ f.bid → nth H j = some x → nth X j = some x) :
    RAt (setN (X ++ [.rows (b.map byteRowD)]) fid (.rows ((fs.set i ⟨f.name, H.length, b, k⟩).map rowF))) r fid (fs.set i ⟨f.name, H.length, b, k⟩) q s p o := by
  have hfm := List.mem_of_getElem? hf
  have hil := (List.getElem?_eq_some_iff.1 hf).1
  have hlt := h.lt
  have hne : ∀ j ∈ idsR r fid fs, j ≠ H.length := fun j hj => by have := hlt j hj; omega
  have hr : r ∈ idsR r fid fs := List.mem_cons_self ..
  have hfd : fid ∈ idsR r fid fs := List.mem_cons_of_mem _ (List.mem_cons_self ..)
  have hbi : ∀ g ∈ fs, g.bid ∈ idsR r fid fs := fun g hg => List.mem_cons_of_mem _ (List.mem_cons_of_mem _ (List.mem_map.2 ⟨g, hg, rfl⟩))
  have hoth : ∀ (j : Nat) (g : RFl), j ≠ i → fs[j]? = some g → g.bid ≠ f.bid := by
    intro j g hj hg e
    have := h.bids
    rw [nodup_get] at this
    rcases Nat.lt_or_ge i j with q1 | q1
    · exact this i j q1 (by simpa using (List.getElem?_eq_some_iff.1 hg).1) (by rw [List.getElem?_map, List.getElem?_map, hf, hg]; simp [e])
    · exact this j i (by omega) (by simpa using hil) (by rw [List.getElem?_map, List.getElem?_map, hf, hg]; simp [e])
  refine ⟨nth_setN_ne (fun e => h.r_fid e.symm) (nth_app (by rw [List.length_set]; exact hXe r _ (h.r_bid hfm).1 h.row)), nth_setN_same (nth_app (hXe fid _ (h.r_bid hfm).2 h.rows)), fun g hg => ?_, ?_⟩
  · obtain ⟨j, hj⟩ := List.mem_iff_getElem?.1 hg
    by_cases e : i = j
    · subst e
      rw [List.getElem?_set_self hil] at hj
      cases hj
      refine nth_setN_ne (hne fid hfd) ?_
      exact nth_new hX.symm
    · rw [List.getElem?_set_ne e] at hj
      have hgm := List.mem_of_getElem? hj
      exact nth_setN_ne (h.r_bid hgm).2 (nth_app (hXe _ _ (hoth j g (fun q => e q.symm) hj) (h.bytes g hgm)))
  · have hnd := h.ids
    rw [List.nodup_cons, List.nodup_cons] at hnd ⊢
    have hmem : ∀ x, x ∈ (fs.set i ⟨f.name, H.length, b, k⟩).map (·.bid) → x = H.length ∨ x ∈ fs.map (·.bid) := by
      intro x hx
      obtain ⟨g, hg, rfl⟩ := List.mem_map.1 hx
      rcases List.mem_or_eq_of_mem_set hg with e | e
      · exact .inr (List.mem_map.2 ⟨g, e, rfl⟩)
      · subst e; exact .inl rfl
    refine ⟨fun q => ?_, fun q => ?_, ?_⟩
    · rcases List.mem_cons.1 q with e | e
      · exact hnd.1 (by rw [e]; exact List.mem_cons_self ..)
      · rcases hmem _ e with e2 | e2
        · exact hne r hr e2
        · exact hnd.1 (List.mem_cons_of_mem _ e2)
    · rcases hmem _ q with e2 | e2
      · exact hne fid hfd e2
      · exact hnd.2.1 e2
    · rw [List.map_set, nodup_get]
      intro a c hac hc hE
      simp only [List.length_set, List.length_map] at hc
      have hbase := hnd.2.2
      rw [nodup_get] at hbase
      have hno : ∀ t : Nat, (fs.map (·.bid))[t]? ≠ some H.length := by
        intro t ht
        rw [List.getElem?_map, Option.map_eq_some_iff] at ht
        obtain ⟨g, hg, hge⟩ := ht
        exact hne _ (hbi g (List.mem_of_getElem? hg)) hge
      by_cases ea : i = a
      · subst ea
        rw [List.getElem?_set_self (by simpa using hil), List.getElem?_set_ne (by omega)] at hE
        exact hno c hE.symm
      · by_cases ec : i = c
        · subst ec
          rw [List.getElem?_set_self (by simpa using hil), List.getElem?_set_ne (by omega)] at hE
          exact hno a hE
        · rw [List.getElem?_set_ne ea, List.getElem?_set_ne ec] at hE
          exact hbase a c hac (by simpa using hc) hE

/-! ### Dropped -/
theorem RAt.drop {H : Heap} {r fid : Nat} {fs : List RFl} {q s p : Int} {o : Bool} (h : RAt H r fid fs q s p o) {i : Nat} {f : RFl} (hf : fs[i]? = some f) :
    RAt (dropHeap H r fs i f q s p o) r (H.length + 3) (fs.eraseIdx i) q s p o ∧ nth (dropHeap H r fs i f q s p o) f.bid = some (.rows (f.bytes.map byteRowD)) ∧ f.bid ∉ idsR r (H.length + 3) (fs.eraseIdx i) := by
  have hfm := List.mem_of_getElem? hf
  have hil := (List.getElem?_eq_some_iff.1 hf).1
  have hlt := h.lt
  have hbi : ∀ g ∈ fs, g.bid ∈ idsR r fid fs := fun g hg => List.mem_cons_of_mem _ (List.mem_cons_of_mem _ (List.mem_map.2 ⟨g, hg, rfl⟩))
  have hrl : r < H.length := hlt r (List.mem_cons_self ..)
  have hsub : ∀ g ∈ fs.eraseIdx i, g ∈ fs := fun g hg => (List.eraseIdx_sublist fs i).subset hg
  have hkeep : ∀ g ∈ fs, nth (dropHeap H r fs i f q s p o) g.bid = some (.rows (g.bytes.map byteRowD)) := fun g hg => nth_setN_ne (h.r_bid hg).1 (nth_app (h.bytes g hg))
  have hmapE : (fs.map rowF).take i ++ (fs.map rowF).drop (i + 1) = (fs.eraseIdx i).map rowF := by
    rw [List.eraseIdx_eq_take_drop_succ, List.map_append, List.map_take, List.map_drop]
  have hlenE : (fs.eraseIdx i).length = fs.length - 1 := by rw [List.length_eraseIdx, if_pos hil]
  have hnd := h.ids
  rw [List.nodup_cons, List.nodup_cons] at hnd
  have hsl : ((fs.eraseIdx i).map (·.bid)).Sublist (fs.map (·.bid)) := (List.eraseIdx_sublist fs i).map _
  have hnot : f.bid ∉ (fs.eraseIdx i).map (·.bid) := by
    have e : (fs.eraseIdx i).map (·.bid) = (fs.map (·.bid)).eraseIdx i := by
      rw [List.eraseIdx_eq_take_drop_succ, List.eraseIdx_eq_take_drop_succ, List.map_append, List.map_take, List.map_drop]
    rw [e]
    intro hm
    have hb := hnd.2.2
    obtain ⟨j, hj⟩ := List.mem_iff_getElem?.1 hm
    have hji : (fs.map (·.bid))[i]? = some f.bid := by rw [List.getElem?_map, hf]; rfl
    rw [nodup_get] at hb
    rw [List.getElem?_eraseIdx] at hj
    split at hj
    · exact hb j i (by omega) (by simpa using hil) (by rw [hj, hji])
    · exact hb i (j + 1) (by omega) (List.getElem?_eq_some_iff.1 hj).1 (by rw [hj, hji])
  refine ⟨⟨?_, ?_, fun g hg => hkeep g (hsub g hg), ?_⟩, hkeep f hfm, ?_⟩
  · rw [hlenE]; exact nth_setN_same (nth_app h.row)
  · refine nth_setN_ne (by omega) ?_
    rw [nth_eq, List.getElem?_append_right (by omega), show H.length + 3 - H.length = 3 by omega, hmapE]
    rfl
  · rw [List.nodup_cons, List.nodup_cons]
    refine ⟨fun e => ?_, fun e => ?_, hnd.2.2.sublist hsl⟩
    · rcases List.mem_cons.1 e with e | e
      · omega
      · exact hnd.1 (List.mem_cons_of_mem _ (hsl.subset e))
    · obtain ⟨g, hg, he⟩ := List.mem_map.1 e
      have := hlt _ (hbi g (hsub g hg)); omega
  · unfold idsR
    intro e
    rcases List.mem_cons.1 e with e | e
    · exact (h.r_bid hfm).1 e.symm
    rcases List.mem_cons.1 e with e | e
    · have := hlt _ (hbi f hfm); omega
    · exact hnot e

/-! ### Inserted -/
def insF (fs : List RFl) (x : RFl) : List RFl := fs.take (posN fs x.name) ++ [x] ++ fs.drop (posN fs x.name)
theorem insF_mem {fs : List RFl} {x g : RFl} : g ∈ insF fs x ↔ g = x ∨ g ∈ fs := by
  unfold insF
  conv => rhs; rw [← List.take_append_drop (posN fs x.name) fs]
  simp only [List.mem_append, List.mem_singleton]
  constructor
  · rintro ((e | e) | e)
    · exact .inr (.inl e)
    · exact .inl e
    · exact .inr (.inr e)
  · rintro (e | e | e)
    · exact .inl (.inr e)
    · exact .inl (.inl e)
    · exact .inr e
theorem insF_perm (fs : List RFl) (x : RFl) : (insF fs x).Perm (x :: fs) := by
  unfold insF
  rw [List.append_assoc]
  have h : (fs.take (posN fs x.name) ++ x :: fs.drop (posN fs x.name)).Perm (x :: (fs.take (posN fs x.name) ++ fs.drop (posN fs x.name))) := List.perm_middle
  rw [List.take_append_drop] at h
  exact h
theorem RAt.insert {H : Heap} {r fid : Nat} {fs : List RFl} {q s p : Int} {o : Bool} (h : RAt H r fid fs q s p o) (x : RFl) (hx : nth H x.bid = some (.rows (x.bytes.map byteRowD))) (hn : x.bid ∉ idsR r fid fs) :
    RAt (insHeap H r fid fs q s p o x.name (rowF x)) r (H.length + 1) (insF fs x) q s p o := by
  have hlt := h.lt
  have hrl : r < H.length := hlt r (List.mem_cons_self ..)
  have hfl : fid < H.length := hlt fid (List.mem_cons_of_mem _ (List.mem_cons_self ..))
  have hbi : ∀ g ∈ fs, g.bid ∈ idsR r fid fs := fun g hg => List.mem_cons_of_mem _ (List.mem_cons_of_mem _ (List.mem_map.2 ⟨g, hg, rfl⟩))
  have hxl := nth_lt hx
  have hxr : r ≠ x.bid := fun e => hn (by rw [← e]; exact List.mem_cons_self ..)
  have hxf : fid ≠ x.bid := fun e => hn (by rw [← e]; exact List.mem_cons_of_mem _ (List.mem_cons_self ..))
  have hxb : x.bid ∉ fs.map (·.bid) := fun e => hn (List.mem_cons_of_mem _ (List.mem_cons_of_mem _ e))
  have hnd := h.ids
  rw [List.nodup_cons, List.nodup_cons] at hnd
  have hlen : (insF fs x).length = fs.length + 1 := (insF_perm fs x).length_eq
  have hrows : insRows fs x.name (rowF x) = (insF fs x).map rowF := by
    unfold insRows insF
    rw [List.map_append, List.map_append, List.map_take, List.map_drop]; rfl
  have hbp : ((insF fs x).map (·.bid)).Perm (x.bid :: fs.map (·.bid)) := (insF_perm fs x).map _
  have hkeep : ∀ j X, j ≠ r → j ≠ fid → nth H j = some X → nth (insHeap H r fid fs q s p o x.name (rowF x)) j = some X := fun j X h1 h2 h3 => nth_setN_ne (fun e => h1 e.symm) (nth_app (nth_setN_ne (fun e => h2 e.symm) (nth_app h3)))
  refine ⟨?_, ?_, fun g hg => ?_, ?_⟩
  · rw [hlen]; exact nth_setN_same (nth_app (nth_setN_ne (fun e => h.r_fid e.symm) (nth_app h.row)))
  · refine nth_setN_ne (by omega) ?_
    rw [← hrows]
    exact nth_new (by rw [setN_length]; simp)
  · rcases insF_mem.1 hg with e | e
    · subst e; exact hkeep _ _ (fun e => hxr e.symm) (fun e => hxf e.symm) hx
    · exact hkeep _ _ (fun q => (h.r_bid e).1 q.symm) (fun q => (h.r_bid e).2 q.symm) (h.bytes g e)
  · rw [List.nodup_cons, List.nodup_cons]
    refine ⟨fun e => ?_, fun e => ?_, (hbp.nodup_iff).2 (List.nodup_cons.2 ⟨hxb, hnd.2.2⟩)⟩
    · rcases List.mem_cons.1 e with e | e
      · omega
      · rcases List.mem_cons.1 (hbp.mem_iff.1 e) with e | e
        · exact hxr e
        · exact hnd.1 (List.mem_cons_of_mem _ e)
    · rcases List.mem_cons.1 (hbp.mem_iff.1 e) with e | e
      · omega
      · obtain ⟨g, hg, he⟩ := List.mem_map.1 e
        have := hlt _ (hbi g hg); omega
/-- A new file, its bytes told as a slice of its own. -/
theorem RAt.insertNew {H : Heap} {r fid : Nat} {fs : List RFl} {q s p : Int} {o : Bool} (h : RAt H r fid fs q s p o) (name : List UInt8) :
    RAt (setN (insHeap H r fid fs q s p o name [.p (.str name), .p .nil, i64 0]) (H.length + 1) (.rows (setN (insRows fs name [.p (.str name), .p .nil, i64 0]) (posN fs name) (setN [.p (.str name), .p .nil, i64 0] 1 (.own (insHeap H r fid fs q s p o name [.p (.str name), .p .nil, i64 0]).length 1 0 0 none)))) ++ [.rows []])
      r (H.length + 1) (insF fs ⟨name, (insHeap H r fid fs q s p o name [.p (.str name), .p .nil, i64 0]).length, [], 0⟩) q s p o := by
  have hlt := h.lt
  have hrl : r < H.length := hlt r (List.mem_cons_self ..)
  have hfl : fid < H.length := hlt fid (List.mem_cons_of_mem _ (List.mem_cons_self ..))
  have hbi : ∀ g ∈ fs, g.bid ∈ idsR r fid fs := fun g hg => List.mem_cons_of_mem _ (List.mem_cons_of_mem _ (List.mem_map.2 ⟨g, hg, rfl⟩))
  have hnd := h.ids
  rw [List.nodup_cons, List.nodup_cons] at hnd
  have hL : (insHeap H r fid fs q s p o name [.p (.str name), .p .nil, i64 0]).length = H.length + 2 := by
    unfold insHeap
    rw [setN_length, List.length_append, setN_length]; simp
  rw [hL]
  generalize hx : (⟨name, H.length + 2, [], 0⟩ : RFl) = x
  have hxn : x.name = name := by rw [← hx]
  have hxb : x.bid = H.length + 2 := by rw [← hx]
  have hlen : (insF fs x).length = fs.length + 1 := (insF_perm fs x).length_eq
  have hk : ((fs.map rowF).take (posN fs name)).length = posN fs name := by
    rw [List.length_take, List.length_map]; exact Nat.min_eq_left (posN_le fs name)
  have hrows : setN (insRows fs name [.p (.str name), .p .nil, i64 0]) (posN fs name) (setN [.p (.str name), .p .nil, i64 0] 1 (.own (H.length + 2) 1 0 0 none)) = (insF fs x).map rowF := by
    unfold insRows insF
    rw [List.append_assoc, setN_eq, List.set_append_right _ _ (by omega), hk, Nat.sub_self, hxn, List.map_append, List.map_append, List.map_take, List.map_drop, List.append_assoc, ← hx]
    rfl
  rw [hrows]
  have hbp : ((insF fs x).map (·.bid)).Perm (x.bid :: fs.map (·.bid)) := (insF_perm fs x).map _
  have hkeep : ∀ j X, j ≠ r → j ≠ fid → nth H j = some X → nth (setN (insHeap H r fid fs q s p o name [.p (.str name), .p .nil, i64 0]) (H.length + 1) (.rows ((insF fs x).map rowF)) ++ [.rows []]) j = some X := fun j X h1 h2 h3 =>
    nth_app (nth_setN_ne (by have := nth_lt h3; omega) (nth_setN_ne (fun e => h1 e.symm) (nth_app (nth_setN_ne (fun e => h2 e.symm) (nth_app h3)))))
  refine ⟨?_, ?_, fun g hg => ?_, ?_⟩
  · rw [hlen]; exact nth_app (nth_setN_ne (by omega) (nth_setN_same (nth_app (nth_setN_ne (fun e => h.r_fid e.symm) (nth_app h.row)))))
  · refine nth_app (nth_setN_same (x := .rows (insRows fs name [.p (.str name), .p .nil, i64 0])) (nth_setN_ne (by omega) (nth_new (by rw [setN_length]; simp))))
  · rcases insF_mem.1 hg with e | e
    · subst e
      rw [hxb, ← hx]
      exact nth_new (by rw [setN_length]; exact hL.symm)
    · exact hkeep _ _ (fun q => (h.r_bid e).1 q.symm) (fun q => (h.r_bid e).2 q.symm) (h.bytes g e)
  · rw [List.nodup_cons, List.nodup_cons]
    refine ⟨fun e => ?_, fun e => ?_, (hbp.nodup_iff).2 (List.nodup_cons.2 ⟨fun e => ?_, hnd.2.2⟩)⟩
    · rcases List.mem_cons.1 e with e | e
      · omega
      · rcases List.mem_cons.1 (hbp.mem_iff.1 e) with e | e
        · omega
        · exact hnd.1 (List.mem_cons_of_mem _ e)
    · rcases List.mem_cons.1 (hbp.mem_iff.1 e) with e | e
      · omega
      · obtain ⟨g, hg, he⟩ := List.mem_map.1 e
        have := hlt _ (hbi g hg); omega
    · obtain ⟨g, hg, he⟩ := List.mem_map.1 e
      have := hlt _ (hbi g hg); omega
end Go.Proofs.Ytanknokhbfijdaa
