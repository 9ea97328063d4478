/- What functions of the disk, and of the laws over it, do. Conditions: those that each theorem names. -/
import Derived.Test.YtanknokhbfijdaaD80
set_option linter.unusedVariables false
set_option linter.unusedSimpArgs false
namespace Go.Proofs.Ytanknokhbfijdaa
open Go.Ab
set_option maxRecDepth 100000
set_option maxHeartbeats 1000000
attribute [local irreducible] Run CallOK DetCall Br PreP BothP AncOr Onw NeedRows NeedMap NeedRow NeedLen NilP NeedIter RoundP EntryP EqP OptP NewP NewSlice NewMade AppTo DrawG anc drawB
theorem crashR_get : ∀ (cs : List UInt8) (l : List PF) (i : Nat), (crashR cs l)[i]? = (l[i]?).map (crash1 (cs.getD i 0))
  | cs, [], i => by simp [crashR]
  | cs, f :: l, 0 => by simp [crashR, List.headD_eq_head?_getD, List.getD_eq_getElem?_getD, List.head?_eq_getElem?]
  | cs, f :: l, i + 1 => by
    rw [crashR, List.getElem?_cons_succ, List.getElem?_cons_succ, crashR_get cs.tail l i]
    congr 2
    simp [List.getD_eq_getElem?_getD]
/-- The files behind so many rounds. -/
structure CrI (cs : List UInt8) (fs cur : List RFl) (i : Nat) : Prop where
  len : cur.length = fs.length
  rest : ∀ j, i ≤ j → cur[j]? = fs[j]?
  done : ∀ j, j < i → (cur[j]?).map rpf = (fs[j]?).map fun f => crash1 (cs.getD j 0) (rpf f)
theorem CrI.step {cs : List UInt8} {fs cur : List RFl} {i : Nat} (h : CrI cs fs cur i) {f f' : RFl} (hf : fs[i]? = some f) (hf' : rpf f' = crash1 (cs.getD i 0) (rpf f)) : CrI cs fs (cur.set i f') (i + 1) := by
  have hil : i < cur.length := by rw [h.len]; exact (List.getElem?_eq_some_iff.1 hf).1
  refine ⟨by rw [List.length_set]; exact h.len, fun j hj => ?_, fun j hj => ?_⟩
  · rw [List.getElem?_set_ne (by omega)]; exact h.rest j (by omega)
  · by_cases e : i = j
    · subst e
      rw [List.getElem?_set_self hil, hf]
      simp [hf']
    · rw [List.getElem?_set_ne e]; exact h.done j (by omega)
theorem CrI.all {cs : List UInt8} {fs cur : List RFl} (h : CrI cs fs cur fs.length) : cur.map rpf = crashR cs (fs.map rpf) := by
  apply List.ext_getElem?
  intro j
  rw [crashR_get, List.getElem?_map, List.getElem?_map]
  rcases Nat.lt_or_ge j fs.length with hj | hj
  · rw [h.done j hj]
    cases fs[j]? <;> rfl
  · rw [List.getElem?_eq_none (by rw [h.len]; exact hj), List.getElem?_eq_none hj]; rfl
theorem goes_crash {H : Heap} {r fid : Nat} {fs : List RFl} {q s p : Int} {o : Bool} (h : RAt H r fid fs q s p o) {i : Nat} {f : RFl} (hf : fs[i]? = some f) (b : List UInt8) (k : Nat) :
    Goes H (idsR r fid fs) (setN (H ++ [.rows (b.map byteRowD)]) fid (.rows ((fs.set i ⟨f.name, H.length, b, k⟩).map rowF))) (idsR r fid (fs.set i ⟨f.name, H.length, b, k⟩)) := by
  refine ⟨fun j X hj hX => nth_setN_ne (fun e => hj (by rw [← e]; exact List.mem_cons_of_mem _ (List.mem_cons_self ..))) (nth_app hX), fun j hj => ?_, by rw [setN_length, List.length_append]; omega⟩
  unfold idsR at hj ⊢
  rcases List.mem_cons.1 hj with e | e
  · exact .inl (by rw [e]; exact List.mem_cons_self ..)
  rcases List.mem_cons.1 e with e | e
  · exact .inl (by rw [e]; exact List.mem_cons_of_mem _ (List.mem_cons_self ..))
  · obtain ⟨g, hg, rfl⟩ := List.mem_map.1 e
    rcases List.mem_or_eq_of_mem_set hg with e | e
    · exact .inl (List.mem_cons_of_mem _ (List.mem_cons_of_mem _ (List.mem_map.2 ⟨g, e, rfl⟩)))
    · subst e; exact .inr (Nat.le_refl _)
/-- Crash. -/
theorem b32 {H : Heap} {r : Nat} {m : Rf} {ids : List Nat} (h : RIs H r m ids) (ok : RfOK m) (cs : List UInt8) (hcs : cs.length ≤ 100000) :
    CallOK Try.prog 32 [.ptr r 0 0, .p (.lst (cs.map byteRow))] H (fun res H' => res = .tup [] ∧ ∃ ids', RIs H' r (rCrashM m cs) ids' ∧ Goes H ids H' ids') := by
  obtain ⟨fid, fs, h, hfs, rfl⟩ := h
  have hl : fs.length ≤ 1000 := by rw [← len_eq hfs]; exact ok.n
  have hu : usedR fs ≤ 10000000 := by rw [← used_eq hfs]; exact ok.u
  have hkept : ∀ f ∈ fs, f.kept ≤ f.bytes.length := fun f hf => ok.kept (rpf f) (by rw [← hfs]; exact List.mem_map.2 ⟨f, hf, rfl⟩)
  have hrow0 := h.row
  unfold rRow at hrow0
  refine CallOK.of_spec ?_
  refine Ab.Spec.walk hm Try.func32 (by kernel_rfl) 300 ?_
  repeat' (first
    | ((with_reducible apply Onw.mk); conv => whnf)
    | (with_reducible first | apply Br.tt | apply Br.ff | apply Br.no)
    | ((with_reducible apply Br.t); · assumption)
    | ((with_reducible apply Br.f); · assumption)
    | ((with_reducible apply Br.dt); · exact ab_known)
    | ((with_reducible apply Br.df); · exact ab_known)
    | (with_reducible first | refine Br.dec (fun hc => ?_) (fun hc => ?_) | refine Br.mk (fun hc => ?_) (fun hc => ?_))
    | ((with_reducible apply DrawG.mkN 8 [false, false, false, false, true, false, false, true]); · decide +kernel)
    | ((with_reducible first | apply NeedRows.mk | apply NeedMap.mk | apply NeedIter.mk); · exact ab_look)
    | ((with_reducible apply NeedLen.mk); · first | assumption | rfl)
    | ((with_reducible apply NeedRow.mk); · exact ab_lookR)
    | ((with_reducible apply DrawG.mk (List.replicate 60 false)); · decide +kernel)
    | (with_reducible first | refine NewP.mk (fun id hid => ?_) | refine NilP.mk (fun e he => ?_))
    | (with_reducible first | exact trivial | exact And.intro rfl rfl)
    | ((with_reducible apply PreP.mk); · exact ab_asked)
    | refine Exists.intro _ (PreP.mk (bytesOf_lst _) ?_)
    | refine PreP.mk (lenD_lst _) ?_
    | (with_reducible first | refine PreP.mk ?_ ?_ | refine BothP.mk ?_ ?_)
    | ((with_reducible apply AncOr.anc); · decide +kernel)
    | with_reducible refine AncOr.go ?_)
  have h1 := h.setRow m.steps 0 false
  have g1 : Goes H (idsR r fid fs) (setN H r (rRow fid fs.length m.quota m.steps 0 false)) (idsR r fid fs) := Goes.set (List.mem_cons_self ..)
  refine Run.keep [(0, .ptr r 0 0), (1, .p (.lst (cs.map byteRow))), (4, i64 (0 : Nat))] ⟨rfl, rfl, rfl, trivial⟩ ?_
  refine Run.rounds (fun (i : Nat) T H2 => ∃ cur, T = [(0, .ptr r 0 0), (1, .p (.lst (cs.map byteRow))), (4, i64 i)] ∧ RAt H2 r fid cur m.quota m.steps 0 false ∧ CrI cs fs cur i ∧ Goes H (idsR r fid fs) H2 (idsR r fid cur) ∧ i ≤ fs.length) (fun i => fs.length - i) ?_ (x := 0)
    ⟨fs, rfl, (by rw [setN_setN]; exact h1), ⟨rfl, fun _ _ => rfl, fun j hj => absurd hj (Nat.not_lt_zero _)⟩, (by rw [setN_setN]; exact g1), Nat.zero_le _⟩
  clear h1 g1 hrow0
  rintro i T H2 ⟨cur, rfl, h2, hc, g2, hi⟩ ih
  have hrow := h2.row
  unfold rRow at hrow
  have hrows := h2.rows
  have hcl := hc.len
  refine Run.walk hm Try.func32 200 ?_
  rcases Nat.lt_or_ge i fs.length with hil | hil
  rotate_left
  · have hc1 : ¬ (i : Int) < (cur.length : Int) := by omega
    repeat' (first
      | ((with_reducible apply Onw.mk); conv => whnf)
      | (with_reducible first | apply Br.tt | apply Br.ff | apply Br.no)
      | ((with_reducible apply Br.t); · assumption)
      | ((with_reducible apply Br.f); · assumption)
      | ((with_reducible apply Br.dt); · exact ab_known)
      | ((with_reducible apply Br.df); · exact ab_known)
      | (with_reducible first | refine Br.dec (fun hc => ?_) (fun hc => ?_) | refine Br.mk (fun hc => ?_) (fun hc => ?_))
      | ((with_reducible first | apply NeedRows.mk | apply NeedMap.mk | apply NeedIter.mk); · exact ab_look)
      | ((with_reducible apply NeedLen.mk); · first | assumption | rfl)
      | ((with_reducible apply NeedRow.mk); · exact ab_lookR)
      | ((with_reducible apply DrawG.mk (List.replicate 60 false)); · decide +kernel)
      | (with_reducible first | refine NewP.mk (fun id hid => ?_) | refine NilP.mk (fun e he => ?_))
      | (with_reducible first | exact trivial | exact And.intro rfl rfl)
      | ((with_reducible apply PreP.mk); · exact ab_asked)
      | refine Exists.intro _ (PreP.mk (bytesOf_lst _) ?_)
      | refine PreP.mk (lenD_lst _) ?_
      | (with_reducible first | refine PreP.mk ?_ ?_ | refine BothP.mk ?_ ?_)
      | ((with_reducible apply AncOr.anc); · decide +kernel)
      | with_reducible refine AncOr.go ?_)
    obtain rfl : i = fs.length := by omega
    exact ⟨rfl, _, ⟨fid, cur, h2, by rw [hc.all, hfs]; rfl, rfl⟩, g2⟩
  have hc1 : (i : Int) < (cur.length : Int) := by omega
  obtain ⟨f, hf⟩ : ∃ f, fs[i]? = some f := ⟨_, List.getElem?_eq_getElem hil⟩
  have hfc : cur[i]? = some f := by rw [hc.rest i (Nat.le_refl _)]; exact hf
  have hfm := List.mem_of_getElem? hf
  have hnth := rowF_nth hfc
  have hby := h2.bytes f (List.mem_of_getElem? hfc)
  have hbd := h2.r_bid (List.mem_of_getElem? hfc)
  have hbd1 : f.bid ≠ r := fun e => hbd.1 e.symm
  have hbd2 : f.bid ≠ fid := fun e => hbd.2 e.symm
  have hrf := h2.r_fid
  have hrf2 : fid ≠ r := fun e => hrf e.symm
  have hk := hkept f hfm
  have hfl : f.bytes.length ≤ 10000000 := by have h5 := usedR_take fs hf; have h6 := usedR_le fs (i + 1); omega
  have hlcs : ((cs.map byteRow).length : Int) = cs.length := by simp
  have W1 : IntKind.i64.wrap ((f.bytes.length : Int) - f.kept) = ((f.bytes.length - f.kept : Nat) : Int) := by rw [wrap64 (by omega) (by omega)]; omega
  have W2 : IntKind.i64.wrap (IntKind.i64.wrap ((f.bytes.length : Int) - f.kept) + 1) = ((f.bytes.length - f.kept + 1 : Nat) : Int) := by rw [W1, wrap64 (by omega) (by omega)]; omega
  have hp0 : (0 : Int) ≤ (i : Int) ∧ (i : Int) < (cur.length : Int) := by omega
  have hnz : IntKind.i64.wrap (IntKind.i64.wrap ((f.bytes.length : Int) - f.kept) + 1) ≠ 0 := by rw [W2]; omega
  -- what the round comes to
  have key : ∀ (n : Nat), f.kept + n = leftN1 (cs.getD i 0) (rpf f) → ∀ H3, H3 = setN (H2 ++ [.rows ((f.bytes.take (f.kept + n)).map byteRowD)]) fid (.rows ((cur.set i ⟨f.name, H2.length, f.bytes.take (f.kept + n), (f.bytes.take (f.kept + n)).length⟩).map rowF)) →
      ∃ cur2, RAt H3 r fid cur2 m.quota m.steps 0 false ∧ CrI cs fs cur2 (i + 1) ∧ Goes H (idsR r fid fs) H3 (idsR r fid cur2) := by
    rintro n hn H3 rfl
    refine ⟨_, h2.setBytes hfc (f.bytes.take (f.kept + n)) (f.bytes.take (f.kept + n)).length (X := H2) rfl (fun j x _ hx => hx), hc.step hf ?_, g2.trans (goes_crash h2 hfc _ _)⟩
    unfold crash1
    rw [← hn]; rfl
  by_cases hcl2 : i < cs.length
  · have hc3 : (i : Int) < ((cs.map byteRow).length : Int) := by rw [hlcs]; omega
    obtain ⟨c, hcc⟩ : ∃ c, cs[i]? = some c := ⟨_, List.getElem?_eq_getElem hcl2⟩
    have hcd : cs.getD i 0 = c := by rw [List.getD_eq_getElem?_getD, hcc]; rfl
    rw [hcd] at key
    have hrc : Ab.rowAt (cs.map byteRow) (i : Int).toNat = byteRow c := rowAt_map hcc
    have hpc : (0 : Int) ≤ (i : Int) ∧ (i : Int) < ((cs.map byteRow).length : Int) ∧ (Ab.rowAt (cs.map byteRow) (i : Int).toNat).length = 1 := ⟨by omega, hc3, by rw [hrc]; rfl⟩
    have hct : c.toNat < 256 := c.toNat_lt
    have Wc : IntKind.i64.wrap (c.toNat : Int) = (c.toNat : Int) := wrap64 (by omega) (by omega)
    by_cases h255 : c = 255
    · have hce : IntKind.i64.wrap (c.toNat : Int) = 255 := by rw [Wc, h255]; rfl
      have hX : IntKind.i64.wrap ((f.kept : Int) + IntKind.i64.wrap ((f.bytes.length : Int) - f.kept)) = ((f.kept + (f.bytes.length - f.kept) : Nat) : Int) := by rw [W1, wrap64 (by omega) (by omega)]; omega
      have hn0 : f.kept + (f.bytes.length - f.kept) = leftN1 c (rpf f) := by unfold leftN1; rw [if_pos h255]; show _ = f.bytes.length; omega
      have hkey := key _ hn0
      have hle : f.kept + (f.bytes.length - f.kept) ≤ f.bytes.length := by omega
      have hsl : (0 : Int) ≤ 0 ∧ (0 : Int) ≤ (IntKind.i64.wrap ((f.kept : Int) + IntKind.i64.wrap ((f.bytes.length : Int) - f.kept))) ∧ (IntKind.i64.wrap ((f.kept : Int) + IntKind.i64.wrap ((f.bytes.length : Int) - f.kept))) ≤ (f.bytes.length : Int) := by rw [hX]; omega
      repeat' (first
        | ((with_reducible apply Onw.mk); conv => whnf)
        | (with_reducible first | apply Br.tt | apply Br.ff | apply Br.no)
        | ((with_reducible apply Br.t); · assumption)
        | ((with_reducible apply Br.f); · assumption)
        | ((with_reducible apply Br.dt); · exact ab_known)
        | ((with_reducible apply Br.df); · exact ab_known)
        | (with_reducible first | refine Br.dec (fun hc => ?_) (fun hc => ?_) | refine Br.mk (fun hc => ?_) (fun hc => ?_))
        | (refine PreP.mk hp0 ?_)
        | (refine PreP.mk hnz ?_)
        | (refine PreP.mk hsl ?_)
        | (refine PreP.mk hpc ?_)
        | (refine EqP.mk hrc ?_)
        | ((with_reducible apply DrawG.mkN 16 [false, false, false, false, false, false, false, false, false, false, false, false, true, false, false, true]); · decide +kernel)
        | ((with_reducible apply DrawG.mkN 9 [false, false, false, false, false, false, false, false, true]); · decide +kernel)
        | ((with_reducible first | apply NeedRows.mk | apply NeedMap.mk | apply NeedIter.mk); · exact ab_look)
        | ((with_reducible apply NeedLen.mk); · first | assumption | rfl)
        | ((with_reducible apply NeedRow.mk); · exact ab_lookR)
        | ((with_reducible apply DrawG.mk (List.replicate 60 false)); · decide +kernel)
        | (with_reducible first | refine NewP.mk (fun id hid => ?_) | refine NilP.mk (fun e he => ?_))
        | (with_reducible first | exact trivial | exact And.intro rfl rfl)
        | ((with_reducible apply PreP.mk); · exact ab_asked)
        | refine Exists.intro _ (PreP.mk (bytesOf_lst _) ?_)
        | refine PreP.mk (lenD_lst _) ?_
        | (with_reducible first | refine PreP.mk ?_ ?_ | refine BothP.mk ?_ ?_)
        | ((with_reducible apply AncOr.anc); · decide +kernel)
        | with_reducible refine AncOr.go ?_)
      · show ((IntKind.i64.wrap ((f.kept : Int) + IntKind.i64.wrap ((f.bytes.length : Int) - f.kept)))).toNat - Int.toNat 0 = (List.take (((IntKind.i64.wrap ((f.kept : Int) + IntKind.i64.wrap ((f.bytes.length : Int) - f.kept)))).toNat - Int.toNat 0) (List.drop (0 + Int.toNat 0) (f.bytes.map byteRowD))).length
        rw [hX, Int.toNat_natCast, List.length_take, List.length_drop, List.length_map]
        have e0 : Int.toNat 0 = 0 := rfl
        rw [e0]; omega
      · have e4 : (List.take (((IntKind.i64.wrap ((f.kept : Int) + IntKind.i64.wrap ((f.bytes.length : Int) - f.kept)))).toNat - Int.toNat 0) (List.drop (0 + Int.toNat 0) (f.bytes.map byteRowD))).length ≤ f.bytes.length := by simp; first | done | omega
        refine ⟨Nat.le_trans (Nat.mul_le_mul_right 1 e4) (by unfold maxRoom; omega), Nat.le_trans e4 (by unfold maxS; omega), fun q hq => byteRows_len _ q (List.mem_of_mem_drop (List.mem_of_mem_take hq))⟩
      refine NewSlice.own (fun id6 hid6 => ?_)
      have e5 : List.take (((IntKind.i64.wrap ((f.kept : Int) + IntKind.i64.wrap ((f.bytes.length : Int) - f.kept)))).toNat - Int.toNat 0) (List.drop (0 + Int.toNat 0) (f.bytes.map byteRowD)) = (f.bytes.take (f.kept + (f.bytes.length - f.kept))).map byteRowD := by rw [hX, Int.toNat_natCast]; simp [List.map_take]
      rw [e5]
      have hl6 : ((f.bytes.take (f.kept + (f.bytes.length - f.kept))).map byteRowD).length = (f.bytes.take (f.kept + (f.bytes.length - f.kept))).length := List.length_map _
      rw [hl6]
      subst hid6
      repeat' (first
        | ((with_reducible apply Onw.mk); conv => whnf)
        | (with_reducible first | apply Br.tt | apply Br.ff | apply Br.no)
        | ((with_reducible apply Br.t); · assumption)
        | ((with_reducible apply Br.f); · assumption)
        | ((with_reducible apply Br.dt); · exact ab_known)
        | ((with_reducible apply Br.df); · exact ab_known)
        | (with_reducible first | refine Br.dec (fun hc => ?_) (fun hc => ?_) | refine Br.mk (fun hc => ?_) (fun hc => ?_))
        | ((with_reducible apply DrawG.mkN 16 [false, false, false, false, false, false, false, false, false, false, false, false, true, false, false, true]); · decide +kernel)
        | ((with_reducible apply DrawG.mkN 9 [false, false, false, false, false, false, false, false, true]); · decide +kernel)
        | ((with_reducible first | apply NeedRows.mk | apply NeedMap.mk | apply NeedIter.mk); · exact ab_look)
        | ((with_reducible apply NeedLen.mk); · first | assumption | rfl)
        | ((with_reducible apply NeedRow.mk); · exact ab_lookR)
        | ((with_reducible apply DrawG.mk (List.replicate 60 false)); · decide +kernel)
        | (with_reducible first | refine NewP.mk (fun id hid => ?_) | refine NilP.mk (fun e he => ?_))
        | (with_reducible first | exact trivial | exact And.intro rfl rfl)
        | ((with_reducible apply PreP.mk); · exact ab_asked)
        | refine Exists.intro _ (PreP.mk (bytesOf_lst _) ?_)
        | refine PreP.mk (lenD_lst _) ?_
        | (with_reducible first | refine PreP.mk ?_ ?_ | refine BothP.mk ?_ ?_)
        | ((with_reducible apply AncOr.anc); · decide +kernel)
        | with_reducible refine AncOr.go ?_)
      have e6 : setN (setN (cur.map rowF) (0 + (i : Int).toNat) [.p (.str f.name), .own H2.length 1 0 (f.bytes.take (f.kept + (f.bytes.length - f.kept))).length none, i64 f.kept]) (0 + (i : Int).toNat) [.p (.str f.name), .own H2.length 1 0 (f.bytes.take (f.kept + (f.bytes.length - f.kept))).length none, i64 (f.bytes.take (f.kept + (f.bytes.length - f.kept))).length] = (cur.set i ⟨f.name, H2.length, f.bytes.take (f.kept + (f.bytes.length - f.kept)), (f.bytes.take (f.kept + (f.bytes.length - f.kept))).length⟩).map rowF := by
        rw [setN_setN, Int.toNat_natCast, Nat.zero_add]
        exact map_set_rowF cur i ⟨f.name, H2.length, f.bytes.take (f.kept + (f.bytes.length - f.kept)), (f.bytes.take (f.kept + (f.bytes.length - f.kept))).length⟩
      refine Run.keep _ ?_ (ih (i + 1) _ _ (by omega) ((hkey _ (by rw [setN_setN]; exact congrArg (fun L => setN (H2 ++ [Ab.Obj.rows ((f.bytes.take (f.kept + (f.bytes.length - f.kept))).map byteRowD)]) fid (.rows L)) e6)).imp fun cur2 ha => ⟨rfl, ha.1, ha.2.1, ha.2.2, by omega⟩))
      exact ⟨rfl, rfl, slot64 (by omega) (by omega) (by omega), trivial⟩
    · have hce : ¬ IntKind.i64.wrap (c.toNat : Int) = 255 := by rw [Wc]; exact fun e => h255 (UInt8.toNat_inj.1 (by have : (255 : UInt8).toNat = 255 := rfl; omega))
      have hmod : (IntKind.i64.wrap (c.toNat : Int)).tmod (IntKind.i64.wrap (IntKind.i64.wrap ((f.bytes.length : Int) - f.kept) + 1)) = ((c.toNat % (f.bytes.length - f.kept + 1) : Nat) : Int) := by rw [Wc, W2]; exact (Int.ofNat_tmod _ _).symm
      have hml : c.toNat % (f.bytes.length - f.kept + 1) < f.bytes.length - f.kept + 1 := Nat.mod_lt _ (by omega)
      have hX : IntKind.i64.wrap ((f.kept : Int) + (IntKind.i64.wrap (c.toNat : Int)).tmod (IntKind.i64.wrap (IntKind.i64.wrap ((f.bytes.length : Int) - f.kept) + 1))) = ((f.kept + c.toNat % (f.bytes.length - f.kept + 1) : Nat) : Int) := by rw [hmod, wrap64 (by omega) (by omega)]; omega
      have hn0 : f.kept + c.toNat % (f.bytes.length - f.kept + 1) = leftN1 c (rpf f) := by unfold leftN1; rw [if_neg h255]; rfl
      have hkey := key _ hn0
      have hle : f.kept + c.toNat % (f.bytes.length - f.kept + 1) ≤ f.bytes.length := by omega
      have hsl : (0 : Int) ≤ 0 ∧ (0 : Int) ≤ (IntKind.i64.wrap ((f.kept : Int) + (IntKind.i64.wrap (c.toNat : Int)).tmod (IntKind.i64.wrap (IntKind.i64.wrap ((f.bytes.length : Int) - f.kept) + 1)))) ∧ (IntKind.i64.wrap ((f.kept : Int) + (IntKind.i64.wrap (c.toNat : Int)).tmod (IntKind.i64.wrap (IntKind.i64.wrap ((f.bytes.length : Int) - f.kept) + 1)))) ≤ (f.bytes.length : Int) := by rw [hX]; omega
      repeat' (first
        | ((with_reducible apply Onw.mk); conv => whnf)
        | (with_reducible first | apply Br.tt | apply Br.ff | apply Br.no)
        | ((with_reducible apply Br.t); · assumption)
        | ((with_reducible apply Br.f); · assumption)
        | ((with_reducible apply Br.dt); · exact ab_known)
        | ((with_reducible apply Br.df); · exact ab_known)
        | (with_reducible first | refine Br.dec (fun hc => ?_) (fun hc => ?_) | refine Br.mk (fun hc => ?_) (fun hc => ?_))
        | (refine PreP.mk hp0 ?_)
        | (refine PreP.mk hnz ?_)
        | (refine PreP.mk hsl ?_)
        | (refine PreP.mk hpc ?_)
        | (refine EqP.mk hrc ?_)
        | ((with_reducible apply DrawG.mkN 16 [false, false, false, false, false, false, false, false, false, false, false, false, true, false, false, true]); · decide +kernel)
        | ((with_reducible apply DrawG.mkN 9 [false, false, false, false, false, false, false, false, true]); · decide +kernel)
        | ((with_reducible first | apply NeedRows.mk | apply NeedMap.mk | apply NeedIter.mk); · exact ab_look)
        | ((with_reducible apply NeedLen.mk); · first | assumption | rfl)
        | ((with_reducible apply NeedRow.mk); · exact ab_lookR)
        | ((with_reducible apply DrawG.mk (List.replicate 60 false)); · decide +kernel)
        | (with_reducible first | refine NewP.mk (fun id hid => ?_) | refine NilP.mk (fun e he => ?_))
        | (with_reducible first | exact trivial | exact And.intro rfl rfl)
        | ((with_reducible apply PreP.mk); · exact ab_asked)
        | refine Exists.intro _ (PreP.mk (bytesOf_lst _) ?_)
        | refine PreP.mk (lenD_lst _) ?_
        | (with_reducible first | refine PreP.mk ?_ ?_ | refine BothP.mk ?_ ?_)
        | ((with_reducible apply AncOr.anc); · decide +kernel)
        | with_reducible refine AncOr.go ?_)
      · show ((IntKind.i64.wrap ((f.kept : Int) + (IntKind.i64.wrap (c.toNat : Int)).tmod (IntKind.i64.wrap (IntKind.i64.wrap ((f.bytes.length : Int) - f.kept) + 1))))).toNat - Int.toNat 0 = (List.take (((IntKind.i64.wrap ((f.kept : Int) + (IntKind.i64.wrap (c.toNat : Int)).tmod (IntKind.i64.wrap (IntKind.i64.wrap ((f.bytes.length : Int) - f.kept) + 1))))).toNat - Int.toNat 0) (List.drop (0 + Int.toNat 0) (f.bytes.map byteRowD))).length
        rw [hX, Int.toNat_natCast, List.length_take, List.length_drop, List.length_map]
        have e0 : Int.toNat 0 = 0 := rfl
        rw [e0]; omega
      · have e4 : (List.take (((IntKind.i64.wrap ((f.kept : Int) + (IntKind.i64.wrap (c.toNat : Int)).tmod (IntKind.i64.wrap (IntKind.i64.wrap ((f.bytes.length : Int) - f.kept) + 1))))).toNat - Int.toNat 0) (List.drop (0 + Int.toNat 0) (f.bytes.map byteRowD))).length ≤ f.bytes.length := by simp; first | done | omega
        refine ⟨Nat.le_trans (Nat.mul_le_mul_right 1 e4) (by unfold maxRoom; omega), Nat.le_trans e4 (by unfold maxS; omega), fun q hq => byteRows_len _ q (List.mem_of_mem_drop (List.mem_of_mem_take hq))⟩
      refine NewSlice.own (fun id6 hid6 => ?_)
      have e5 : List.take (((IntKind.i64.wrap ((f.kept : Int) + (IntKind.i64.wrap (c.toNat : Int)).tmod (IntKind.i64.wrap (IntKind.i64.wrap ((f.bytes.length : Int) - f.kept) + 1))))).toNat - Int.toNat 0) (List.drop (0 + Int.toNat 0) (f.bytes.map byteRowD)) = (f.bytes.take (f.kept + (c.toNat % (f.bytes.length - f.kept + 1)))).map byteRowD := by rw [hX, Int.toNat_natCast]; simp [List.map_take]
      rw [e5]
      have hl6 : ((f.bytes.take (f.kept + (c.toNat % (f.bytes.length - f.kept + 1)))).map byteRowD).length = (f.bytes.take (f.kept + (c.toNat % (f.bytes.length - f.kept + 1)))).length := List.length_map _
      rw [hl6]
      subst hid6
      repeat' (first
        | ((with_reducible apply Onw.mk); conv => whnf)
        | (with_reducible first | apply Br.tt | apply Br.ff | apply Br.no)
        | ((with_reducible apply Br.t); · assumption)
        | ((with_reducible apply Br.f); · assumption)
        | ((with_reducible apply Br.dt); · exact ab_known)
        | ((with_reducible apply Br.df); · exact ab_known)
        | (with_reducible first | refine Br.dec (fun hc => ?_) (fun hc => ?_) | refine Br.mk (fun hc => ?_) (fun hc => ?_))
        | ((with_reducible apply DrawG.mkN 16 [false, false, false, false, false, false, false, false, false, false, false, false, true, false, false, true]); · decide +kernel)
        | ((with_reducible apply DrawG.mkN 9 [false, false, false, false, false, false, false, false, true]); · decide +kernel)
        | ((with_reducible first | apply NeedRows.mk | apply NeedMap.mk | apply NeedIter.mk); · exact ab_look)
        | ((with_reducible apply NeedLen.mk); · first | assumption | rfl)
        | ((with_reducible apply NeedRow.mk); · exact ab_lookR)
        | ((with_reducible apply DrawG.mk (List.replicate 60 false)); · decide +kernel)
        | (with_reducible first | refine NewP.mk (fun id hid => ?_) | refine NilP.mk (fun e he => ?_))
        | (with_reducible first | exact trivial | exact And.intro rfl rfl)
        | ((with_reducible apply PreP.mk); · exact ab_asked)
        | refine Exists.intro _ (PreP.mk (bytesOf_lst _) ?_)
        | refine PreP.mk (lenD_lst _) ?_
        | (with_reducible first | refine PreP.mk ?_ ?_ | refine BothP.mk ?_ ?_)
        | ((with_reducible apply AncOr.anc); · decide +kernel)
        | with_reducible refine AncOr.go ?_)
      have e6 : setN (setN (cur.map rowF) (0 + (i : Int).toNat) [.p (.str f.name), .own H2.length 1 0 (f.bytes.take (f.kept + (c.toNat % (f.bytes.length - f.kept + 1)))).length none, i64 f.kept]) (0 + (i : Int).toNat) [.p (.str f.name), .own H2.length 1 0 (f.bytes.take (f.kept + (c.toNat % (f.bytes.length - f.kept + 1)))).length none, i64 (f.bytes.take (f.kept + (c.toNat % (f.bytes.length - f.kept + 1)))).length] = (cur.set i ⟨f.name, H2.length, f.bytes.take (f.kept + (c.toNat % (f.bytes.length - f.kept + 1))), (f.bytes.take (f.kept + (c.toNat % (f.bytes.length - f.kept + 1)))).length⟩).map rowF := by
        rw [setN_setN, Int.toNat_natCast, Nat.zero_add]
        exact map_set_rowF cur i ⟨f.name, H2.length, f.bytes.take (f.kept + (c.toNat % (f.bytes.length - f.kept + 1))), (f.bytes.take (f.kept + (c.toNat % (f.bytes.length - f.kept + 1)))).length⟩
      refine Run.keep _ ?_ (ih (i + 1) _ _ (by omega) ((hkey _ (by rw [setN_setN]; exact congrArg (fun L => setN (H2 ++ [Ab.Obj.rows ((f.bytes.take (f.kept + (c.toNat % (f.bytes.length - f.kept + 1)))).map byteRowD)]) fid (.rows L)) e6)).imp fun cur2 ha => ⟨rfl, ha.1, ha.2.1, ha.2.2, by omega⟩))
      exact ⟨rfl, rfl, slot64 (by omega) (by omega) (by omega), trivial⟩
  · have hc3 : ¬ (i : Int) < ((cs.map byteRow).length : Int) := by rw [hlcs]; omega
    have hcd : cs.getD i 0 = 0 := by rw [List.getD_eq_getElem?_getD, List.getElem?_eq_none (by omega)]; rfl
    rw [hcd] at key
    have hmod : (0 : Int).tmod (IntKind.i64.wrap (IntKind.i64.wrap ((f.bytes.length : Int) - f.kept) + 1)) = ((0 % (f.bytes.length - f.kept + 1) : Nat) : Int) := by simp
    have hX : IntKind.i64.wrap ((f.kept : Int) + (0 : Int).tmod (IntKind.i64.wrap (IntKind.i64.wrap ((f.bytes.length : Int) - f.kept) + 1))) = ((f.kept + 0 % (f.bytes.length - f.kept + 1) : Nat) : Int) := by rw [hmod, wrap64 (by simp only [Nat.zero_mod]; omega) (by simp only [Nat.zero_mod]; omega)]; omega
    have hn0 : f.kept + 0 % (f.bytes.length - f.kept + 1) = leftN1 0 (rpf f) := by unfold leftN1; rw [if_neg (by decide)]; rfl
    have hkey := key _ hn0
    have hle : f.kept + 0 % (f.bytes.length - f.kept + 1) ≤ f.bytes.length := by simp; omega
    have hrc : True := trivial
    have hpc : True := trivial
    have hsl : (0 : Int) ≤ 0 ∧ (0 : Int) ≤ (IntKind.i64.wrap ((f.kept : Int) + (0 : Int).tmod (IntKind.i64.wrap (IntKind.i64.wrap ((f.bytes.length : Int) - f.kept) + 1)))) ∧ (IntKind.i64.wrap ((f.kept : Int) + (0 : Int).tmod (IntKind.i64.wrap (IntKind.i64.wrap ((f.bytes.length : Int) - f.kept) + 1)))) ≤ (f.bytes.length : Int) := by rw [hX]; omega
    repeat' (first
      | ((with_reducible apply Onw.mk); conv => whnf)
      | (with_reducible first | apply Br.tt | apply Br.ff | apply Br.no)
      | ((with_reducible apply Br.t); · assumption)
      | ((with_reducible apply Br.f); · assumption)
      | ((with_reducible apply Br.dt); · exact ab_known)
      | ((with_reducible apply Br.df); · exact ab_known)
      | (with_reducible first | refine Br.dec (fun hc => ?_) (fun hc => ?_) | refine Br.mk (fun hc => ?_) (fun hc => ?_))
      | (refine PreP.mk hp0 ?_)
      | (refine PreP.mk hnz ?_)
      | (refine PreP.mk hsl ?_)
      | ((with_reducible apply DrawG.mkN 16 [false, false, false, false, false, false, false, false, false, false, false, false, true, false, false, true]); · decide +kernel)
      | ((with_reducible apply DrawG.mkN 9 [false, false, false, false, false, false, false, false, true]); · decide +kernel)
      | ((with_reducible first | apply NeedRows.mk | apply NeedMap.mk | apply NeedIter.mk); · exact ab_look)
      | ((with_reducible apply NeedLen.mk); · first | assumption | rfl)
      | ((with_reducible apply NeedRow.mk); · exact ab_lookR)
      | ((with_reducible apply DrawG.mk (List.replicate 60 false)); · decide +kernel)
      | (with_reducible first | refine NewP.mk (fun id hid => ?_) | refine NilP.mk (fun e he => ?_))
      | (with_reducible first | exact trivial | exact And.intro rfl rfl)
      | ((with_reducible apply PreP.mk); · exact ab_asked)
      | refine Exists.intro _ (PreP.mk (bytesOf_lst _) ?_)
      | refine PreP.mk (lenD_lst _) ?_
      | (with_reducible first | refine PreP.mk ?_ ?_ | refine BothP.mk ?_ ?_)
      | ((with_reducible apply AncOr.anc); · decide +kernel)
      | with_reducible refine AncOr.go ?_)
    · show ((IntKind.i64.wrap ((f.kept : Int) + (0 : Int).tmod (IntKind.i64.wrap (IntKind.i64.wrap ((f.bytes.length : Int) - f.kept) + 1))))).toNat - Int.toNat 0 = (List.take (((IntKind.i64.wrap ((f.kept : Int) + (0 : Int).tmod (IntKind.i64.wrap (IntKind.i64.wrap ((f.bytes.length : Int) - f.kept) + 1))))).toNat - Int.toNat 0) (List.drop (0 + Int.toNat 0) (f.bytes.map byteRowD))).length
      rw [hX, Int.toNat_natCast, List.length_take, List.length_drop, List.length_map]
      have e0 : Int.toNat 0 = 0 := rfl
      rw [e0]; omega
    · have e4 : (List.take (((IntKind.i64.wrap ((f.kept : Int) + (0 : Int).tmod (IntKind.i64.wrap (IntKind.i64.wrap ((f.bytes.length : Int) - f.kept) + 1))))).toNat - Int.toNat 0) (List.drop (0 + Int.toNat 0) (f.bytes.map byteRowD))).length ≤ f.bytes.length := by simp; first | done | omega
      refine ⟨Nat.le_trans (Nat.mul_le_mul_right 1 e4) (by unfold maxRoom; omega), Nat.le_trans e4 (by unfold maxS; omega), fun q hq => byteRows_len _ q (List.mem_of_mem_drop (List.mem_of_mem_take hq))⟩
    refine NewSlice.own (fun id6 hid6 => ?_)
    have e5 : List.take (((IntKind.i64.wrap ((f.kept : Int) + (0 : Int).tmod (IntKind.i64.wrap (IntKind.i64.wrap ((f.bytes.length : Int) - f.kept) + 1))))).toNat - Int.toNat 0) (List.drop (0 + Int.toNat 0) (f.bytes.map byteRowD)) = (f.bytes.take (f.kept + (0 % (f.bytes.length - f.kept + 1)))).map byteRowD := by rw [hX, Int.toNat_natCast]; simp [List.map_take]
    rw [e5]
    have hl6 : ((f.bytes.take (f.kept + (0 % (f.bytes.length - f.kept + 1)))).map byteRowD).length = (f.bytes.take (f.kept + (0 % (f.bytes.length - f.kept + 1)))).length := List.length_map _
    rw [hl6]
    subst hid6
    repeat' (first
      | ((with_reducible apply Onw.mk); conv => whnf)
      | (with_reducible first | apply Br.tt | apply Br.ff | apply Br.no)
      | ((with_reducible apply Br.t); · assumption)
      | ((with_reducible apply Br.f); · assumption)
      | ((with_reducible apply Br.dt); · exact ab_known)
      | ((with_reducible apply Br.df); · exact ab_known)
      | (with_reducible first | refine Br.dec (fun hc => ?_) (fun hc => ?_) | refine Br.mk (fun hc => ?_) (fun hc => ?_))
      | ((with_reducible apply DrawG.mkN 16 [false, false, false, false, false, false, false, false, false, false, false, false, true, false, false, true]); · decide +kernel)
      | ((with_reducible apply DrawG.mkN 9 [false, false, false, false, false, false, false, false, true]); · decide +kernel)
      | ((with_reducible first | apply NeedRows.mk | apply NeedMap.mk | apply NeedIter.mk); · exact ab_look)
      | ((with_reducible apply NeedLen.mk); · first | assumption | rfl)
      | ((with_reducible apply NeedRow.mk); · exact ab_lookR)
      | ((with_reducible apply DrawG.mk (List.replicate 60 false)); · decide +kernel)
      | (with_reducible first | refine NewP.mk (fun id hid => ?_) | refine NilP.mk (fun e he => ?_))
      | (with_reducible first | exact trivial | exact And.intro rfl rfl)
      | ((with_reducible apply PreP.mk); · exact ab_asked)
      | refine Exists.intro _ (PreP.mk (bytesOf_lst _) ?_)
      | refine PreP.mk (lenD_lst _) ?_
      | (with_reducible first | refine PreP.mk ?_ ?_ | refine BothP.mk ?_ ?_)
      | ((with_reducible apply AncOr.anc); · decide +kernel)
      | with_reducible refine AncOr.go ?_)
    have e6 : setN (setN (cur.map rowF) (0 + (i : Int).toNat) [.p (.str f.name), .own H2.length 1 0 (f.bytes.take (f.kept + (0 % (f.bytes.length - f.kept + 1)))).length none, i64 f.kept]) (0 + (i : Int).toNat) [.p (.str f.name), .own H2.length 1 0 (f.bytes.take (f.kept + (0 % (f.bytes.length - f.kept + 1)))).length none, i64 (f.bytes.take (f.kept + (0 % (f.bytes.length - f.kept + 1)))).length] = (cur.set i ⟨f.name, H2.length, f.bytes.take (f.kept + (0 % (f.bytes.length - f.kept + 1))), (f.bytes.take (f.kept + (0 % (f.bytes.length - f.kept + 1)))).length⟩).map rowF := by
      rw [setN_setN, Int.toNat_natCast, Nat.zero_add]
      exact map_set_rowF cur i ⟨f.name, H2.length, f.bytes.take (f.kept + (0 % (f.bytes.length - f.kept + 1))), (f.bytes.take (f.kept + (0 % (f.bytes.length - f.kept + 1)))).length⟩
    refine Run.keep _ ?_ (ih (i + 1) _ _ (by omega) ((hkey _ (by rw [setN_setN]; exact congrArg (fun L => setN (H2 ++ [Ab.Obj.rows ((f.bytes.take (f.kept + (0 % (f.bytes.length - f.kept + 1)))).map byteRowD)]) fid (.rows L)) e6)).imp fun cur2 ha => ⟨rfl, ha.1, ha.2.1, ha.2.2, by omega⟩))
    exact ⟨rfl, rfl, slot64 (by omega) (by omega) (by omega), trivial⟩
end Go.Proofs.Ytanknokhbfijdaa
