/- What functions of the disk, and of the laws over it, do. Conditions: those that each theorem names. -/
import Derived.Test.YtanknokhbfijdaaD76
set_option linter.unusedVariables false
set_option linter.unusedSimpArgs false
namespace Go.Proofs.Ytanknokhbfijdaa
open Go.Ab
set_option maxRecDepth 100000
set_option maxHeartbeats 1000000
attribute [local irreducible] Run CallOK DetCall Br PreP BothP AncOr Onw NeedRows NeedMap NeedRow NeedLen NilP NeedIter RoundP EntryP EqP OptP NewP NewSlice NewMade AppTo DrawG anc drawB
def RIs (H : Heap) (r : Nat) (m : Rf) (ids : List Nat) : Prop := ∃ fid fs, RAt H r fid fs m.quota m.steps m.power m.off ∧ fs.map rpf = m.files ∧ ids = idsR r fid fs
structure RfOK (m : Rf) : Prop where
  s0 : 0 ≤ m.steps
  s1 : m.steps ≤ 1000000
  p0 : 0 ≤ m.power
  p1 : m.power ≤ 9223372036854775807
  u : rUsed m.files ≤ 10000000
  n : m.files.length ≤ 1000
  nd : (m.files.map (·.name)).Nodup
  kept : ∀ x ∈ m.files, x.kept ≤ x.bytes.length
theorem RIs.lt {H : Heap} {r : Nat} {m : Rf} {ids : List Nat} (h : RIs H r m ids) : ∀ j ∈ ids, j < H.length := by
  obtain ⟨fid, fs, h, _, rfl⟩ := h; exact h.lt
theorem RIs.move {H H' : Heap} {r : Nat} {m : Rf} {ids a b : List Nat} (h : RIs H r m ids) (g : Goes H a H' b) (hd : ∀ j ∈ ids, j ∉ a) : RIs H' r m ids := by
  obtain ⟨fid, fs, h, h2, rfl⟩ := h
  exact ⟨fid, fs, h.move (fun j hj o ho => g.out j o (hd j hj) ho), h2, rfl⟩
theorem used_eq {fs : List RFl} {l : List PF} (h : fs.map rpf = l) : rUsed l = usedR fs := by
  subst h; unfold rUsed usedR; rw [List.map_map]; rfl
theorem name_eq {fs : List RFl} {l : List PF} (h : fs.map rpf = l) : l.map (·.name) = fs.map (·.name) := by
  subst h; rw [List.map_map]; rfl
theorem len_eq {fs : List RFl} {l : List PF} (h : fs.map rpf = l) : l.length = fs.length := by subst h; simp
theorem idx_there {fs : List RFl} {name : List UInt8} (h : idxN fs name < fs.length) : ∃ f, fs[idxN fs name]? = some f ∧ f.name = name := by
  refine ⟨_, List.getElem?_eq_getElem h, ?_⟩
  have := (List.findIdx_eq (p := fun f : RFl => decide (f.name = name)) h).1 rfl
  simpa using this.1
theorem has_idx {fs : List RFl} {l : List PF} (h : fs.map rpf = l) (name : List UInt8) : hasN l name = decide (idxN fs name < fs.length) := by
  subst h
  rw [Bool.eq_iff_iff, decide_eq_true_eq, has_mem, name_eq rfl, List.mem_map]
  constructor
  · rintro ⟨f, hf, hn⟩
    unfold idxN
    exact List.findIdx_lt_length_of_exists ⟨f, hf, by simp [hn]⟩
  · intro hl
    obtain ⟨f, hf, hn⟩ := idx_there hl
    exact ⟨f, List.mem_of_getElem? hf, hn⟩
theorem c53 {H : Heap} {r fid : Nat} {fs : List RFl} {m : Rf} (h : RAt H r fid fs m.quota m.steps m.power m.off) (ok : RfOK m) :
    CallOK Try.prog 53 [.ptr r 0 0] H (fun res H' => res = boolD (!(rStep m).off) ∧ H' = setN H r (rRow fid fs.length m.quota (rStep m).steps (rStep m).power (rStep m).off)) :=
  CallOK.of_spec (s53 H r fid fs.length m.quota m.steps m.power m.off h.row ok.s0 ok.s1 ok.p0 ok.p1)
theorem c55 {H : Heap} {r fid : Nat} {fs : List RFl} {q s p : Int} {o : Bool} (h : RAt H r fid fs q s p o) (hl : fs.length ≤ 100000) (name : List UInt8) :
    CallOK Try.prog 55 [.ptr r 0 0, .p (.str name)] H (fun res H' => res = i64 (atI fs name) ∧ H' = H) :=
  CallOK.of_spec (s55 H r fid fs q s p o name h.row h.rows hl)
theorem c56 {H : Heap} {r fid : Nat} {fs : List RFl} {q s p : Int} {o : Bool} (h : RAt H r fid fs q s p o) (hl : fs.length ≤ 100000) (hu : usedR fs ≤ 1000000000) :
    CallOK Try.prog 56 [.ptr r 0 0] H (fun res H' => res = i64 (usedR fs) ∧ H' = H) :=
  CallOK.of_spec (s56 H r fid fs q s p o h.row h.rows hl hu)
theorem c54 (l : List UInt8) (hl : l.length ≤ 1000) (H : Heap) : CallOK Try.prog 54 [.p (.str l)] H (fun r H' => r = boolD (okName l) ∧ H' = H) :=
  (CallOK.of_spec (s54 l hl H)).mono (fun r H' hr => ⟨hr.2, hr.1⟩)

/-! ### What files become -/
theorem insF_pf : ∀ (fs : List RFl) (x : RFl), (insF fs x).map rpf = insP (rpf x) (fs.map rpf)
  | [], x => rfl
  | f :: fs, x => by
    have ih := insF_pf fs x
    rw [List.map_cons]
    rw [show insP (rpf x) (rpf f :: fs.map rpf) = if strLt (rpf f).name (rpf x).name = true then rpf f :: insP (rpf x) (fs.map rpf) else rpf x :: rpf f :: fs.map rpf from rfl]
    unfold insF posN at *
    rw [List.findIdx_cons]
    cases h : strLt f.name x.name with
    | true =>
      have e : strLt (rpf f).name (rpf x).name = true := h
      rw [if_pos e, ← ih]
      simp
    | false =>
      have e : ¬ strLt (rpf f).name (rpf x).name = true := by rw [show strLt (rpf f).name (rpf x).name = false from h]; exact Bool.false_ne_true
      rw [if_neg e]
      simp
theorem set_pf {fs : List RFl} (hn : (fs.map (·.name)).Nodup) {i : Nat} {f f' : RFl} (hf : fs[i]? = some f) (g : PF → PF) (hg : rpf f' = g (rpf f)) : (fs.set i f').map rpf = modN (fs.map rpf) f.name g := by
  unfold modN
  rw [List.map_map]
  apply List.ext_getElem?
  intro j
  by_cases e : i = j
  · subst e
    rw [List.getElem?_map, List.getElem?_set_self (List.getElem?_eq_some_iff.1 hf).1, List.getElem?_map, hf]
    simp only [Option.map_some, Function.comp, Option.some.injEq]
    rw [if_pos (show (rpf f).name = f.name from rfl)]; exact hg
  · rw [List.getElem?_map, List.getElem?_set_ne e, List.getElem?_map]
    cases hj : fs[j]? with
    | none => rfl
    | some y =>
      simp only [Option.map_some, Function.comp, Option.some.injEq]
      have hne : (rpf y).name ≠ f.name := by
        intro e2
        have hy : (fs.map (·.name))[j]? = some f.name := by rw [List.getElem?_map, hj]; exact congrArg some e2
        have hx : (fs.map (·.name))[i]? = some f.name := by rw [List.getElem?_map, hf]; rfl
        have hil : i < (fs.map (·.name)).length := (List.getElem?_eq_some_iff.1 hx).1
        have hjl : j < (fs.map (·.name)).length := (List.getElem?_eq_some_iff.1 hy).1
        unfold List.Nodup at hn
        rw [List.pairwise_iff_getElem] at hn
        have h1 := (List.getElem?_eq_some_iff.1 hx).2
        have h2 := (List.getElem?_eq_some_iff.1 hy).2
        rcases Nat.lt_or_ge i j with q | q
        · exact hn i j hil hjl q (by rw [h1, h2])
        · exact hn j i hjl hil (by omega) (by rw [h1, h2])
      rw [if_neg hne]
theorem erase_pf : ∀ {fs : List RFl} (_ : (fs.map (·.name)).Nodup) (name : List UInt8), (fs.eraseIdx (idxN fs name)).map rpf = dropN' (fs.map rpf) name
  | [], _, name => rfl
  | f :: fs, hn, name => by
    rw [List.map_cons, List.nodup_cons] at hn
    have ih := erase_pf hn.2 name
    unfold idxN at *
    rw [List.map_cons, dropN_cons, List.findIdx_cons]
    by_cases e : f.name = name
    · rw [if_pos (show (rpf f).name = name from e)]
      simp only [e, decide_true, cond_true, List.eraseIdx_zero, List.tail_cons]
      unfold dropN'
      rw [eq_comm, List.filter_eq_self]
      intro p hp
      obtain ⟨y, hy, rfl⟩ := List.mem_map.1 hp
      simp only [ne_eq, decide_not, Bool.not_eq_true', decide_eq_false_iff_not]
      intro e2
      exact hn.1 (List.mem_map.2 ⟨y, hy, by rw [e]; exact e2⟩)
    · rw [if_neg (show ¬ (rpf f).name = name from e)]
      simp only [e, decide_false, cond_false, List.eraseIdx_cons_succ, List.map_cons]
      rw [ih]
end Go.Proofs.Ytanknokhbfijdaa
