/- What functions of the disk, and of the laws over it, do. Conditions: those that each theorem names. -/
import Derived.Test.YtanknokhbfijdaaD10
set_option linter.unusedVariables false
set_option linter.unusedSimpArgs false
namespace Go.Proofs.Ytanknokhbfijdaa
open Go.Ab
set_option maxRecDepth 100000
set_option maxHeartbeats 1000000
attribute [local irreducible] Run CallOK DetCall Br PreP BothP AncOr Onw NeedRows NeedMap NeedRow NeedLen NilP NeedIter RoundP EntryP EqP OptP NewP NewSlice NewMade AppTo DrawG anc drawB
/-- A file, without its place. -/
structure PF where
  name : List UInt8
  bytes : List UInt8
  kept : Nat
def pf (f : Fl) : PF := ⟨f.name, f.bytes, f.kept.toNat⟩
def KeptOK (k : Dk) : Prop := ∀ f ∈ k.files, 0 ≤ f.kept ∧ f.kept ≤ f.bytes.length ∧ f.bytes.length ≤ 100000000 ∧ f.name.length ≤ 1000
def leftN1 (c : UInt8) (p : PF) : Nat := if c = 255 then p.bytes.length else p.kept + c.toNat % (p.bytes.length - p.kept + 1)
def crash1 (c : UInt8) (p : PF) : PF := ⟨p.name, p.bytes.take (leftN1 c p), (p.bytes.take (leftN1 c p)).length⟩
def crashL : List (List UInt8) → List UInt8 → List PF → List PF
  | [], _, fs => fs
  | n :: ns, cs, fs => crashL ns cs.tail (fs.map fun p => if p.name = n then crash1 (cs.headD 0) p else p)

theorem rowAt_map {α : Type} {l : List α} {g : α → List P} {i : Nat} {x : α} (h : l[i]? = some x) : Ab.rowAt (l.map g) (i : Int).toNat = g x := by
  simp [Ab.rowAt, h]
theorem lookF_of {H : Heap} {d : Nat} {k : Dk} (h : DiskAt H d k) {f : Fl} (hf : f ∈ k.files) {name : List UInt8} (hn : f.name = name) : lookF k name = some f := by
  cases hl : lookF k name with
  | none => exact absurd hn (lookF_none hl f hf)
  | some g =>
    obtain ⟨hg, _⟩ := lookF_split hl
    rcases Classical.em (f = g) with e | e
    · rw [e]
    · exfalso
      have hn2 := h.names
      obtain ⟨l1, l2, hs⟩ := List.append_of_mem hf
      have := (names_mid (hs ▸ hn2)).2 g (by
        have hgm := lookF_mem hl
        rw [hs] at hgm
        rcases List.mem_append.1 hgm with q | q
        · exact List.mem_append_left _ q
        · rcases List.mem_cons.1 q with q | q
          · exact absurd q.symm e
          · exact List.mem_append_right _ q)
      exact this (by rw [hg, hn])
/-- A file cut. -/
def cutF (H : Heap) (f : Fl) (L : Nat) : Fl := { f with bd := .own H.length 1 0 (f.bytes.take L).length (capOf (f.bytes.take L)), bytes := f.bytes.take L, kept := (f.bytes.take L).length }
theorem DiskAt.cut {H : Heap} {d : Nat} {k : Dk} (h : DiskAt H d k) {f : Fl} (hf : f ∈ k.files) (L : Nat) (R1 : Ab.Obj) (H2 : Heap)
    (e : H2 = setN (setN (H ++ [.rows ((f.bytes.take L).map byteRowD)]) f.fid R1) f.fid (.rows [[.own H.length 1 0 (f.bytes.take L).length (capOf (f.bytes.take L)), i64 (f.bytes.take L).length]])) :
    DiskAt H2 d { k with files := putF k.files (cutF H f L) } ∧ Goes H (idsD d k) H2 (idsD d { k with files := putF k.files (cutF H f L) }) := by
  subst e
  have hfr := (h.file f hf).1
  have hlt := nth_lt hfr
  refine h.setFile hf _ rfl rfl (nth_setN_same (nth_setN_same (nth_app hfr))) ?_ (fun j o hj ho => ?_) (fun j hj => ?_) (by simp [setN_length])
  · have hr : nth (setN (setN (H ++ [.rows ((f.bytes.take L).map byteRowD)]) f.fid R1) f.fid (.rows [[.own H.length 1 0 (f.bytes.take L).length (capOf (f.bytes.take L)), i64 (f.bytes.take L).length]])) H.length = some (.rows ((f.bytes.take L).map byteRowD)) :=
      nth_setN_ne (by omega) (nth_setN_ne (by omega) (nth_new rfl))
    rcases Classical.em (f.bytes.take L = []) with e | e
    · refine .inr (.inr ⟨H.length, 0, _, ?_, e, hr, Nat.zero_le _⟩)
      simp [cutF, capOf, e]
    · refine .inr (.inl ⟨H.length, ?_, hr⟩)
      simp [cutF, capOf, e]
  · have hne : f.fid ≠ j := fun e => hj (by rw [← e]; exact List.mem_cons_self)
    exact nth_setN_ne hne (nth_setN_ne hne (nth_app ho))
  · simp [cutF, idsB] at hj; omega
theorem name_one {H : Heap} {d : Nat} {k : Dk} (h : DiskAt H d k) {f g : Fl} (hf : f ∈ k.files) (hg : g ∈ k.files) (e : g.name = f.name) : g = f := by
  have h1 := lookF_of h hf (name := f.name) rfl
  have h2 := lookF_of h hg (name := f.name) e
  rw [h1] at h2; simpa using h2.symm
theorem putF_pf {H : Heap} {d : Nat} {k : Dk} (h : DiskAt H d k) {f : Fl} (hf : f ∈ k.files) (f' : Fl) (hn : f'.name = f.name) (φ : PF → PF) (hφ : pf f' = φ (pf f)) :
    (putF k.files f').map pf = (k.files.map pf).map fun p => if p.name = f.name then φ p else p := by
  unfold putF
  rw [List.map_map, List.map_map]
  refine List.map_congr_left fun g hg => ?_
  simp only [Function.comp]
  rw [hn]
  by_cases e : g.name = f.name
  · have := name_one h hf hg e
    subst this
    rw [if_pos rfl, if_pos (show (pf g).name = g.name from rfl)]
    exact hφ
  · rw [if_neg e, if_neg (show ¬ (pf g).name = f.name from e)]
theorem crashX (f : Fl) (c : UInt8) (h0 : 0 ≤ f.kept) (h1 : f.kept ≤ f.bytes.length) (h2 : f.bytes.length ≤ 100000000) :
    IntKind.i64.wrap (f.kept + (IntKind.i64.wrap (c.toNat : Int)).tmod (IntKind.i64.wrap (IntKind.i64.wrap ((f.bytes.length : Int) - f.kept) + 1))) = (((pf f).kept + c.toNat % ((pf f).bytes.length - (pf f).kept + 1) : Nat) : Int) := by
  have hc : c.toNat < 256 := c.toNat_lt
  obtain ⟨kn, hkn⟩ := Int.eq_ofNat_of_zero_le h0
  simp only [pf, hkn, Int.toNat_natCast]
  rw [wrap64 (n := (c.toNat : Int)) (by omega) (by omega), wrap64 (n := (f.bytes.length : Int) - kn) (by omega) (by omega), wrap64 (n := (f.bytes.length : Int) - kn + 1) (by omega) (by omega)]
  have e : ((f.bytes.length : Int) - kn + 1) = ((f.bytes.length - kn + 1 : Nat) : Int) := by omega
  rw [e, ← Int.ofNat_tmod]
  have hm := Nat.mod_lt c.toNat (y := f.bytes.length - kn + 1) (by omega)
  rw [wrap64 (by omega) (by omega)]
  omega
theorem leftN1_le (c : UInt8) (p : PF) (h : p.kept ≤ p.bytes.length) : leftN1 c p ≤ p.bytes.length := by
  unfold leftN1
  split
  · exact Nat.le_refl _
  · have := Nat.mod_lt c.toNat (y := p.bytes.length - p.kept + 1) (by omega)
    omega
theorem s18 (H : Heap) (d : Nat) (k : Dk) (cs : List UInt8) (h : DiskAt H d k) (hk : KeptOK k) (hn : k.files.length ≤ 1000000) (hcs : cs.length ≤ 100000) :
    Ab.Spec Try.prog 18 [.ptr d 0 0, .p (.lst (cs.map byteRow))] H (fun r H' => r = .tup [] ∧ ∃ k', DiskAt H' d k' ∧ Goes H (idsD d k) H' (idsD d k') ∧ k'.steps = k.steps ∧ k'.off = 0 ∧ k'.quota = k.quota ∧
      k'.files.map pf = crashL (namesS k) cs (k.files.map pf) ∧ KeptOK k') := by
  have h0 := h.row
  unfold dRow at h0
  have hp : DiskAt (setN H d (dRow { k with off := 0 })) d { k with off := 0 } := h.setRow k.steps 0
  have hg : Goes H (idsD d k) (setN H d (dRow { k with off := 0 })) (idsD d { k with off := 0 }) := Goes.set (by simp [idsD])
  generalize hk0 : ({ k with off := 0 } : Dk) = k0 at hp hg
  have hkk : k0.steps = k.steps ∧ k0.off = 0 ∧ k0.quota = k.quota ∧ k0.files = k.files ∧ namesS k0 = namesS k := by subst hk0; exact ⟨rfl, rfl, rfl, rfl, rfl⟩
  refine Ab.Spec.walk hm Try.func18 (by kernel_rfl) 100 ?_
  repeat' (first
    | ((with_reducible apply Onw.mk); conv => whnf)
    | (with_reducible first | apply Br.tt | apply Br.ff | apply Br.no)
    | ((with_reducible apply Br.t); · assumption)
    | ((with_reducible apply Br.f); · assumption)
    | ((with_reducible apply Br.dt); · exact ab_known)
    | ((with_reducible apply Br.df); · exact ab_known)
    | (with_reducible first | refine Br.dec (fun hc => ?_) (fun hc => ?_) | refine Br.mk (fun hc => ?_) (fun hc => ?_))
    | ((with_reducible first | apply NeedRows.mk | apply NeedMap.mk | apply NeedIter.mk); · exact ab_look)
    | ((with_reducible apply NeedLen.mk); · first | assumption | rfl)
    | ((with_reducible apply NeedRow.mk); · exact ab_lookR)
    | ((with_reducible apply DrawG.mk (List.replicate 60 false)); · decide +kernel)
    | (with_reducible first | refine NewP.mk (fun id hid => ?_) | refine NilP.mk (fun e he => ?_))
    | (with_reducible first | exact trivial | exact And.intro rfl rfl)
    | ((with_reducible apply PreP.mk); · exact ab_asked)
    | refine Exists.intro _ (PreP.mk (bytesOf_lst _) ?_)
    | refine PreP.mk (lenD_lst _) ?_
    | (with_reducible first | refine PreP.mk ?_ ?_ | refine BothP.mk ?_ ?_)
    | ((with_reducible apply AncOr.anc); · decide +kernel)
    | with_reducible refine AncOr.go ?_)
  refine CallOK.go (R := fun r H' => r = .p (.lst ((namesS k).map strRow)) ∧ H' = setN H d (dRow { k with off := 0 })) ?_ (fun r H' hr => ?_)
  · change CallOK Try.prog 23 [.ptr d 0 0] (setN H d (dRow { k with off := 0 })) _
    rw [hk0]
    refine (CallOK.of_spec (s23 _ d k0 hp (fun f hf => (hk f (by rw [hkk.2.2.2.1] at hf; exact hf)).2.2.2) (by rw [hkk.2.2.2.1]; exact hn))).mono (fun r H' hr => ?_)
    refine ⟨?_, hr.1⟩
    rw [hr.2]
    simp [listR, hkk, offB]
  obtain ⟨rfl, rfl⟩ := hr
  rw [hk0]
  generalize setN H d (dRow k0) = H0 at hp hg
  repeat' (first
    | ((with_reducible apply Onw.mk); conv => whnf)
    | (with_reducible first | apply Br.tt | apply Br.ff | apply Br.no)
    | ((with_reducible apply Br.t); · assumption)
    | ((with_reducible apply Br.f); · assumption)
    | ((with_reducible apply Br.dt); · exact ab_known)
    | ((with_reducible apply Br.df); · exact ab_known)
    | (with_reducible first | refine Br.dec (fun hc => ?_) (fun hc => ?_) | refine Br.mk (fun hc => ?_) (fun hc => ?_))
    | ((with_reducible first | apply NeedRows.mk | apply NeedMap.mk | apply NeedIter.mk); · exact ab_look)
    | ((with_reducible apply NeedLen.mk); · first | assumption | rfl)
    | ((with_reducible apply NeedRow.mk); · exact ab_lookR)
    | ((with_reducible apply DrawG.mk (List.replicate 60 false)); · decide +kernel)
    | (with_reducible first | refine NewP.mk (fun id hid => ?_) | refine NilP.mk (fun e he => ?_))
    | (with_reducible first | exact trivial | exact And.intro rfl rfl)
    | ((with_reducible apply PreP.mk); · exact ab_asked)
    | refine Exists.intro _ (PreP.mk (bytesOf_lst _) ?_)
    | refine PreP.mk (lenD_lst _) ?_
    | (with_reducible first | refine PreP.mk ?_ ?_ | refine BothP.mk ?_ ?_)
    | ((with_reducible apply AncOr.anc); · decide +kernel)
    | with_reducible refine AncOr.go ?_)
  refine Run.keep [(0, .ptr d 0 0), (1, .p (.lst (cs.map byteRow))), (14, .p (.lst ((namesS k).map strRow))), (15, i64 (namesS k).length), (16, i64 (0 : Nat))] ⟨rfl, rfl, rfl, ?_, rfl, trivial⟩ ?_
  · simp; rfl
  generalize htot : crashL (namesS k) cs (k.files.map pf) = total
  refine Run.rounds (fun i T H' => i ≤ (namesS k).length ∧ T = [(0, .ptr d 0 0), (1, .p (.lst ((cs.drop i).map byteRow))), (14, .p (.lst ((namesS k).map strRow))), (15, i64 (namesS k).length), (16, i64 (i : Nat))] ∧
    ∃ k', DiskAt H' d k' ∧ Goes H (idsD d k) H' (idsD d k') ∧ k'.steps = k.steps ∧ k'.off = 0 ∧ k'.quota = k.quota ∧ k'.files.map (·.name) = k.files.map (·.name) ∧
      crashL ((namesS k).drop i) (cs.drop i) (k'.files.map pf) = total ∧ KeptOK k') (fun i => (namesS k).length - i) ?_ (x := 0) ⟨Nat.zero_le _, rfl, k0, hp, hg, hkk.1, hkk.2.1, hkk.2.2.1, by rw [hkk.2.2.2.1], by rw [hkk.2.2.2.1]; exact htot, by intro f hf; rw [hkk.2.2.2.1] at hf; exact hk f hf⟩
  clear hp hg hkk hk0
  rintro i T H' ⟨hi, rfl, k', hd, hgo, e1, e2, e3, e4, e5, hk'⟩ ih
  have hrow := hd.row
  have hmap := hd.map
  unfold dRow at hrow
  have hlen : (((namesS k).map strRow).length : Int) = (namesS k).length := by simp
  have hnl : (namesS k).length = k.files.length := by simp [namesS]
  rcases Nat.lt_or_ge i (namesS k).length with hil | hil
  · obtain ⟨nm, hnm⟩ : ∃ nm, (namesS k)[i]? = some nm := ⟨_, List.getElem?_eq_getElem hil⟩
    have hri : Ab.rowAt ((namesS k).map strRow) (i : Int).toNat = strRow nm := rowAt_map hnm
    have hrl : (Ab.rowAt ((namesS k).map strRow) (i : Int).toNat).length = 1 := by rw [hri]; rfl
    have hrp : 0 ≤ (i : Int) ∧ (i : Int) < ((namesS k).map strRow).length ∧ (Ab.rowAt ((namesS k).map strRow) (i : Int).toNat).length = 1 := ⟨by omega, by omega, hrl⟩
    obtain ⟨f, hf, hfn⟩ : ∃ f ∈ k'.files, f.name = nm := by
      have h1 : nm ∈ namesS k := List.mem_of_getElem? hnm
      unfold namesS at h1
      rw [List.mem_mergeSort, ← e4] at h1
      exact List.mem_map.1 h1
    have hlook : lookE (k'.files.map entF) (.str nm) = some (.ptr f.fid 0 0) := by rw [lookE_files, lookF_of hd hf hfn]; rfl
    have hff := hd.file f hf
    have hfr := hff.1
    have hko := hk' f hf
    have hlb := lenD_bytes hff.2
    have hw1 : IntKind.i64.wrap ((f.bytes.length : Int) - f.kept) = f.bytes.length - f.kept := wrap64 (by omega) (by omega)
    have hw2 : IntKind.i64.wrap (IntKind.i64.wrap ((f.bytes.length : Int) - f.kept) + 1) = f.bytes.length - f.kept + 1 := by rw [hw1]; exact wrap64 (by omega) (by omega)
    have hnz : IntKind.i64.wrap (IntKind.i64.wrap ((f.bytes.length : Int) - f.kept) + 1) ≠ 0 := by rw [hw2]; omega
    have hname : pf f = ⟨nm, f.bytes, f.kept.toNat⟩ := by simp [pf, hfn]
    have hpk : (pf f).kept ≤ (pf f).bytes.length := by simp only [pf]; omega
    have close : ∀ (c : UInt8) (f' : Fl) (H2 : Heap), (cs.drop i).headD 0 = c → f'.name = f.name → pf f' = crash1 c (pf f) → (0 ≤ f'.kept ∧ f'.kept ≤ f'.bytes.length ∧ f'.bytes.length ≤ 100000000) →
        (DiskAt H2 d { k' with files := putF k'.files f' } ∧ Goes H' (idsD d k') H2 (idsD d { k' with files := putF k'.files f' })) →
        ∃ k', DiskAt H2 d k' ∧ Goes H (idsD d k) H2 (idsD d k') ∧ k'.steps = k.steps ∧ k'.off = 0 ∧ k'.quota = k.quota ∧ k'.files.map (·.name) = k.files.map (·.name) ∧
          crashL ((namesS k).drop (i + 1)) (cs.drop (i + 1)) (k'.files.map pf) = total ∧ KeptOK k' := by
      intro c f' H2 hc hn' hpf hko' hset
      refine ⟨_, hset.1, hgo.trans hset.2, e1, e2, e3, ?_, ?_, fun g hg => ?_⟩
      · rw [map_putF hd.names hf hn' _ hn']; exact e4
      · rw [← e5, List.drop_eq_getElem_cons hil]
        have hnm' : (namesS k)[i] = nm := by
          rw [List.getElem?_eq_getElem hil] at hnm; simpa using hnm
        rw [hnm']
        simp only [crashL]
        rw [putF_pf hd hf f' hn' (crash1 c) hpf, hfn, hc, List.tail_drop]
      · obtain ⟨g0, hg0, rfl⟩ := List.mem_map.1 hg
        split
        · exact ⟨hko'.1, hko'.2.1, hko'.2.2, by rw [hn']; exact hko.2.2.2⟩
        · exact hk' g0 hg0
    have closeC : ∀ (c : UInt8), (cs.drop i).headD 0 = c → c ≠ 255 → ∀ (R1 : Ab.Obj) (H2 : Heap), H2 = setN (setN (H' ++ [.rows ((f.bytes.take (leftN1 c (pf f))).map byteRowD)]) f.fid R1) f.fid (.rows [[.own H'.length 1 0 (f.bytes.take (leftN1 c (pf f))).length (capOf (f.bytes.take (leftN1 c (pf f)))), i64 (f.bytes.take (leftN1 c (pf f))).length]]) →
        ∃ k', DiskAt H2 d k' ∧ Goes H (idsD d k) H2 (idsD d k') ∧ k'.steps = k.steps ∧ k'.off = 0 ∧ k'.quota = k.quota ∧ k'.files.map (·.name) = k.files.map (·.name) ∧
          crashL ((namesS k).drop (i + 1)) (cs.drop (i + 1)) (k'.files.map pf) = total ∧ KeptOK k' := by
      intro c hc h255 R1 H2 hH2
      refine close c (cutF H' f (leftN1 c (pf f))) H2 hc rfl (by simp [cutF, pf, crash1]) ⟨Int.natCast_nonneg _, Int.le_refl _, by simp only [cutF, List.length_take]; omega⟩ (hd.cut hf (leftN1 c (pf f)) R1 H2 hH2)
    have closeS : ∀ (H2 : Heap), (cs.drop i).headD 0 = 255 → H2 = setN H' f.fid (.rows [[f.bd, i64 f.bytes.length]]) →
        ∃ k', DiskAt H2 d k' ∧ Goes H (idsD d k) H2 (idsD d k') ∧ k'.steps = k.steps ∧ k'.off = 0 ∧ k'.quota = k.quota ∧ k'.files.map (·.name) = k.files.map (·.name) ∧
          crashL ((namesS k).drop (i + 1)) (cs.drop (i + 1)) (k'.files.map pf) = total ∧ KeptOK k' := by
      intro H2 hc hH2
      subst hH2
      refine close 255 { f with kept := f.bytes.length } _ hc rfl (by simp [pf, crash1, leftN1]) ⟨Int.natCast_nonneg _, Int.le_refl _, hko.2.2.1⟩ (hd.sync hf)
    have hx := fun c => crashX f c hko.1 hko.2.1 hko.2.2.1
    refine Run.walk hm Try.func18 100 ?_
    cases hdc : cs.drop i with
    | nil =>
      have hz : ((List.map byteRow ([] : List UInt8)).length : Int) = 0 := rfl
      have hL : leftN1 0 (pf f) = (pf f).kept + (0 : UInt8).toNat % ((pf f).bytes.length - (pf f).kept + 1) := by simp [leftN1]
      have hx0 := hx 0
      rw [← hL] at hx0
      have hle := leftN1_le 0 (pf f) hpk
      have hlen2 : (f.bytes.take (leftN1 0 (pf f))).length = leftN1 0 (pf f) := by simp only [List.length_take]; exact Nat.min_eq_left hle
      have hhd : (cs.drop i).headD 0 = 0 := by rw [hdc]; rfl
      have hd1 : cs.drop (i + 1) = [] := by rw [← List.tail_drop, hdc]; rfl
      have hxt : (IntKind.i64.wrap (f.kept + (IntKind.i64.wrap ((0 : UInt8).toNat : Int)).tmod (IntKind.i64.wrap (IntKind.i64.wrap ((f.bytes.length : Int) - f.kept) + 1)))).toNat - Int.toNat 0 = (f.bytes.take (leftN1 0 (pf f))).length := by
        rw [hx0, hlen2]; simp
      have hsl : (0 : Int) ≤ 0 ∧ (0 : Int) ≤ IntKind.i64.wrap (f.kept + (IntKind.i64.wrap ((0 : UInt8).toNat : Int)).tmod (IntKind.i64.wrap (IntKind.i64.wrap ((f.bytes.length : Int) - f.kept) + 1))) ∧
          IntKind.i64.wrap (f.kept + (IntKind.i64.wrap ((0 : UInt8).toNat : Int)).tmod (IntKind.i64.wrap (IntKind.i64.wrap ((f.bytes.length : Int) - f.kept) + 1))) ≤ (f.bytes.length : Int) := by
        rw [hx0]; simp only [pf] at hle ⊢; omega
      rcases hff.2 with ⟨hbd, hbl⟩ | ⟨id, hbd, hrw⟩ | ⟨id, st, rs, hbd, hbl, hrw, hst⟩
      · rw [hbd] at hfr
        rw [hbl] at hnz hsl hlb
        repeat' (first
          | ((with_reducible apply Onw.mk); conv => whnf)
          | (with_reducible first | apply Br.tt | apply Br.ff | apply Br.no)
          | ((with_reducible apply Br.t); · assumption)
          | ((with_reducible apply Br.f); · assumption)
          | ((with_reducible apply Br.dt); · exact ab_known)
          | ((with_reducible apply Br.df); · exact ab_known)
          | (with_reducible first | refine Br.dec (fun hc => ?_) (fun hc => ?_) | refine Br.mk (fun hc => ?_) (fun hc => ?_))
          | (refine PreP.mk hrp ?_)
          | (refine PreP.mk hnz ?_)
          | (refine PreP.mk hsl ?_)
          | (refine EqP.mk hri ?_)
          | (refine EqP.mk hrc ?_)
          | (refine PreP.mk hpc ?_)
          | (refine OptP.some hlook ?_)
          | (refine PreP.mk ⟨keysOk_files k', rfl⟩ ?_)
          | (with_reducible apply DrawG.mk [false, false, false, false, false, false, false, false, false, false, false, false, false, false, false, false, true, false, false, true, false]; · decide +kernel)
          | ((with_reducible first | apply NeedRows.mk | apply NeedMap.mk | apply NeedIter.mk); · exact ab_look)
          | ((with_reducible apply NeedLen.mk); · first | assumption | rfl)
          | ((with_reducible apply NeedRow.mk); · exact ab_lookR)
          | ((with_reducible apply DrawG.mk (List.replicate 60 false)); · decide +kernel)
          | (with_reducible first | refine NewP.mk (fun id hid => ?_) | refine NilP.mk (fun e he => ?_))
          | (with_reducible first | exact trivial | exact And.intro rfl rfl)
          | ((with_reducible apply PreP.mk); · exact ab_asked)
          | refine Exists.intro _ (PreP.mk (bytesOf_lst _) ?_)
          | refine PreP.mk (lenD_lst _) ?_
          | (with_reducible first | refine PreP.mk ?_ ?_ | refine BothP.mk ?_ ?_)
          | ((with_reducible apply AncOr.anc); · decide +kernel)
          | with_reducible refine AncOr.go ?_)
        refine DetCall.go (c49t H' _ [] (.inl ⟨rfl, rfl⟩) (by simp)) ?_
        repeat' (first
          | ((with_reducible apply Onw.mk); conv => whnf)
          | (with_reducible first | apply Br.tt | apply Br.ff | apply Br.no)
          | ((with_reducible apply Br.t); · assumption)
          | ((with_reducible apply Br.f); · assumption)
          | ((with_reducible apply Br.dt); · exact ab_known)
          | ((with_reducible apply Br.df); · exact ab_known)
          | (with_reducible first | refine Br.dec (fun hc => ?_) (fun hc => ?_) | refine Br.mk (fun hc => ?_) (fun hc => ?_))
          | (refine PreP.mk hrp ?_)
          | (refine PreP.mk hnz ?_)
          | (refine PreP.mk hsl ?_)
          | (refine EqP.mk hri ?_)
          | (refine EqP.mk hrc ?_)
          | (refine PreP.mk hpc ?_)
          | (refine OptP.some hlook ?_)
          | (refine PreP.mk ⟨keysOk_files k', rfl⟩ ?_)
          | (with_reducible apply DrawG.mk [false, false, false, false, false, false, false, false, false, false, false, false, false, false, false, false, true, false, false, true, false]; · decide +kernel)
          | ((with_reducible first | apply NeedRows.mk | apply NeedMap.mk | apply NeedIter.mk); · exact ab_look)
          | ((with_reducible apply NeedLen.mk); · first | assumption | rfl)
          | ((with_reducible apply NeedRow.mk); · exact ab_lookR)
          | ((with_reducible apply DrawG.mk (List.replicate 60 false)); · decide +kernel)
          | (with_reducible first | refine NewP.mk (fun id hid => ?_) | refine NilP.mk (fun e he => ?_))
          | (with_reducible first | exact trivial | exact And.intro rfl rfl)
          | ((with_reducible apply PreP.mk); · exact ab_asked)
          | refine Exists.intro _ (PreP.mk (bytesOf_lst _) ?_)
          | refine PreP.mk (lenD_lst _) ?_
          | (with_reducible first | refine PreP.mk ?_ ?_ | refine BothP.mk ?_ ?_)
          | ((with_reducible apply AncOr.anc); · decide +kernel)
          | with_reducible refine AncOr.go ?_)
        refine Run.keep _ ?_ (ih (i + 1) _ _ (by omega) ⟨by omega, rfl, closeC 0 hhd (by decide) _ _ (by rw [hbl, List.take_nil]; rfl)⟩)
        exact ⟨rfl, by rw [hd1]; rfl, rfl, rfl, slot64 (by omega) (by omega) (by omega), trivial⟩
      · rw [hbd] at hfr
        repeat' (first
          | ((with_reducible apply Onw.mk); conv => whnf)
          | (with_reducible first | apply Br.tt | apply Br.ff | apply Br.no)
          | ((with_reducible apply Br.t); · assumption)
          | ((with_reducible apply Br.f); · assumption)
          | ((with_reducible apply Br.dt); · exact ab_known)
          | ((with_reducible apply Br.df); · exact ab_known)
          | (with_reducible first | refine Br.dec (fun hc => ?_) (fun hc => ?_) | refine Br.mk (fun hc => ?_) (fun hc => ?_))
          | (refine PreP.mk hrp ?_)
          | (refine PreP.mk hnz ?_)
          | (refine PreP.mk hsl ?_)
          | (refine EqP.mk hri ?_)
          | (refine EqP.mk hrc ?_)
          | (refine PreP.mk hpc ?_)
          | (refine OptP.some hlook ?_)
          | (refine PreP.mk ⟨keysOk_files k', rfl⟩ ?_)
          | (with_reducible apply DrawG.mk [false, false, false, false, false, false, false, false, false, false, false, false, false, false, false, false, true, false, false, true, false]; · decide +kernel)
          | ((with_reducible first | apply NeedRows.mk | apply NeedMap.mk | apply NeedIter.mk); · exact ab_look)
          | ((with_reducible apply NeedLen.mk); · first | assumption | rfl)
          | ((with_reducible apply NeedRow.mk); · exact ab_lookR)
          | ((with_reducible apply DrawG.mk (List.replicate 60 false)); · decide +kernel)
          | (with_reducible first | refine NewP.mk (fun id hid => ?_) | refine NilP.mk (fun e he => ?_))
          | (with_reducible first | exact trivial | exact And.intro rfl rfl)
          | ((with_reducible apply PreP.mk); · exact ab_asked)
          | refine Exists.intro _ (PreP.mk (bytesOf_lst _) ?_)
          | refine PreP.mk (lenD_lst _) ?_
          | (with_reducible first | refine PreP.mk ?_ ?_ | refine BothP.mk ?_ ?_)
          | ((with_reducible apply AncOr.anc); · decide +kernel)
          | with_reducible refine AncOr.go ?_)
        refine DetCall.go (c49t H' _ (f.bytes.take (leftN1 0 (pf f))) (.inr (.inl ⟨id, _, congrArg (fun n => D.own id 1 0 n none) hxt, hrw, by rw [hlen2, List.map_take], by simp [hlen2]; exact hle⟩)) (by omega)) ?_
        repeat' (first
          | ((with_reducible apply Onw.mk); conv => whnf)
          | (with_reducible first | apply Br.tt | apply Br.ff | apply Br.no)
          | ((with_reducible apply Br.t); · assumption)
          | ((with_reducible apply Br.f); · assumption)
          | ((with_reducible apply Br.dt); · exact ab_known)
          | ((with_reducible apply Br.df); · exact ab_known)
          | (with_reducible first | refine Br.dec (fun hc => ?_) (fun hc => ?_) | refine Br.mk (fun hc => ?_) (fun hc => ?_))
          | (refine PreP.mk hrp ?_)
          | (refine PreP.mk hnz ?_)
          | (refine PreP.mk hsl ?_)
          | (refine EqP.mk hri ?_)
          | (refine EqP.mk hrc ?_)
          | (refine PreP.mk hpc ?_)
          | (refine OptP.some hlook ?_)
          | (refine PreP.mk ⟨keysOk_files k', rfl⟩ ?_)
          | (with_reducible apply DrawG.mk [false, false, false, false, false, false, false, false, false, false, false, false, false, false, false, false, true, false, false, true, false]; · decide +kernel)
          | ((with_reducible first | apply NeedRows.mk | apply NeedMap.mk | apply NeedIter.mk); · exact ab_look)
          | ((with_reducible apply NeedLen.mk); · first | assumption | rfl)
          | ((with_reducible apply NeedRow.mk); · exact ab_lookR)
          | ((with_reducible apply DrawG.mk (List.replicate 60 false)); · decide +kernel)
          | (with_reducible first | refine NewP.mk (fun id hid => ?_) | refine NilP.mk (fun e he => ?_))
          | (with_reducible first | exact trivial | exact And.intro rfl rfl)
          | ((with_reducible apply PreP.mk); · exact ab_asked)
          | refine Exists.intro _ (PreP.mk (bytesOf_lst _) ?_)
          | refine PreP.mk (lenD_lst _) ?_
          | (with_reducible first | refine PreP.mk ?_ ?_ | refine BothP.mk ?_ ?_)
          | ((with_reducible apply AncOr.anc); · decide +kernel)
          | with_reducible refine AncOr.go ?_)
        refine Run.keep _ ?_ (ih (i + 1) _ _ (by omega) ⟨by omega, rfl, closeC 0 hhd (by decide) _ _ rfl⟩)
        exact ⟨rfl, by rw [hd1]; rfl, rfl, rfl, slot64 (by omega) (by omega) (by omega), trivial⟩
      · rw [hbd] at hfr
        rw [hbl] at hnz hsl hlb hxt
        rw [List.take_nil] at hxt
        repeat' (first
          | ((with_reducible apply Onw.mk); conv => whnf)
          | (with_reducible first | apply Br.tt | apply Br.ff | apply Br.no)
          | ((with_reducible apply Br.t); · assumption)
          | ((with_reducible apply Br.f); · assumption)
          | ((with_reducible apply Br.dt); · exact ab_known)
          | ((with_reducible apply Br.df); · exact ab_known)
          | (with_reducible first | refine Br.dec (fun hc => ?_) (fun hc => ?_) | refine Br.mk (fun hc => ?_) (fun hc => ?_))
          | (refine PreP.mk hrp ?_)
          | (refine PreP.mk hnz ?_)
          | (refine PreP.mk hsl ?_)
          | (refine EqP.mk hri ?_)
          | (refine EqP.mk hrc ?_)
          | (refine PreP.mk hpc ?_)
          | (refine OptP.some hlook ?_)
          | (refine PreP.mk ⟨keysOk_files k', rfl⟩ ?_)
          | (with_reducible apply DrawG.mk [false, false, false, false, false, false, false, false, false, false, false, false, false, false, false, false, true, false, false, true, false]; · decide +kernel)
          | ((with_reducible first | apply NeedRows.mk | apply NeedMap.mk | apply NeedIter.mk); · exact ab_look)
          | ((with_reducible apply NeedLen.mk); · first | assumption | rfl)
          | ((with_reducible apply NeedRow.mk); · exact ab_lookR)
          | ((with_reducible apply DrawG.mk (List.replicate 60 false)); · decide +kernel)
          | (with_reducible first | refine NewP.mk (fun id hid => ?_) | refine NilP.mk (fun e he => ?_))
          | (with_reducible first | exact trivial | exact And.intro rfl rfl)
          | ((with_reducible apply PreP.mk); · exact ab_asked)
          | refine Exists.intro _ (PreP.mk (bytesOf_lst _) ?_)
          | refine PreP.mk (lenD_lst _) ?_
          | (with_reducible first | refine PreP.mk ?_ ?_ | refine BothP.mk ?_ ?_)
          | ((with_reducible apply AncOr.anc); · decide +kernel)
          | with_reducible refine AncOr.go ?_)
        refine DetCall.go (c49t H' _ [] (.inr (.inr ⟨id, st, rs, congrArg (fun n => D.own id 1 st n (some 0)) hxt, rfl, hrw, hst⟩)) (by simp)) ?_
        repeat' (first
          | ((with_reducible apply Onw.mk); conv => whnf)
          | (with_reducible first | apply Br.tt | apply Br.ff | apply Br.no)
          | ((with_reducible apply Br.t); · assumption)
          | ((with_reducible apply Br.f); · assumption)
          | ((with_reducible apply Br.dt); · exact ab_known)
          | ((with_reducible apply Br.df); · exact ab_known)
          | (with_reducible first | refine Br.dec (fun hc => ?_) (fun hc => ?_) | refine Br.mk (fun hc => ?_) (fun hc => ?_))
          | (refine PreP.mk hrp ?_)
          | (refine PreP.mk hnz ?_)
          | (refine PreP.mk hsl ?_)
          | (refine EqP.mk hri ?_)
          | (refine EqP.mk hrc ?_)
          | (refine PreP.mk hpc ?_)
          | (refine OptP.some hlook ?_)
          | (refine PreP.mk ⟨keysOk_files k', rfl⟩ ?_)
          | (with_reducible apply DrawG.mk [false, false, false, false, false, false, false, false, false, false, false, false, false, false, false, false, true, false, false, true, false]; · decide +kernel)
          | ((with_reducible first | apply NeedRows.mk | apply NeedMap.mk | apply NeedIter.mk); · exact ab_look)
          | ((with_reducible apply NeedLen.mk); · first | assumption | rfl)
          | ((with_reducible apply NeedRow.mk); · exact ab_lookR)
          | ((with_reducible apply DrawG.mk (List.replicate 60 false)); · decide +kernel)
          | (with_reducible first | refine NewP.mk (fun id hid => ?_) | refine NilP.mk (fun e he => ?_))
          | (with_reducible first | exact trivial | exact And.intro rfl rfl)
          | ((with_reducible apply PreP.mk); · exact ab_asked)
          | refine Exists.intro _ (PreP.mk (bytesOf_lst _) ?_)
          | refine PreP.mk (lenD_lst _) ?_
          | (with_reducible first | refine PreP.mk ?_ ?_ | refine BothP.mk ?_ ?_)
          | ((with_reducible apply AncOr.anc); · decide +kernel)
          | with_reducible refine AncOr.go ?_)
        refine Run.keep _ ?_ (ih (i + 1) _ _ (by omega) ⟨by omega, rfl, closeC 0 hhd (by decide) _ _ (by rw [hbl, List.take_nil]; rfl)⟩)
        exact ⟨rfl, by rw [hd1]; rfl, rfl, rfl, slot64 (by omega) (by omega) (by omega), trivial⟩
    | cons c rest =>
      have hz : ((List.map byteRow (c :: rest)).length : Int) = rest.length + 1 := by simp
      have hpc : (0 : Int) ≤ 0 ∧ (0 : Int) < (List.map byteRow (c :: rest)).length ∧ (Ab.rowAt (List.map byteRow (c :: rest)) (0 : Int).toNat).length = 1 := ⟨by omega, by omega, rfl⟩
      have hrc : Ab.rowAt (List.map byteRow (c :: rest)) (0 : Int).toNat = byteRow c := rfl
      have hkeep : some (D.p (.lst (((List.map byteRow (c :: rest)).take (((List.map byteRow (c :: rest)).length : Int).toNat)).drop (1 : Int).toNat))) = some (D.p (.lst (List.map byteRow rest))) := by simp; exact List.take_of_length_le (by simp)
      have hps : (0 : Int) ≤ 1 ∧ (1 : Int) ≤ ((List.map byteRow (c :: rest)).length : Int) ∧ ((List.map byteRow (c :: rest)).length : Int) ≤ ((List.map byteRow (c :: rest)).length : Int) ∧ ∀ r ∈ List.map byteRow (c :: rest), r.length = 1 := ⟨by omega, by omega, by omega, fun r hr => by obtain ⟨x, _, rfl⟩ := List.mem_map.1 hr; rfl⟩
      rcases Classical.em (c = 255) with h255 | h255
      · have hci : (c.toNat : Int) = 255 := by rw [h255]; rfl
        have hhd : (cs.drop i).headD 0 = 255 := by rw [hdc]; exact h255
        have hd1 : cs.drop (i + 1) = rest := by rw [← List.tail_drop, hdc]; rfl
        repeat' (first
          | ((with_reducible apply Onw.mk); conv => whnf)
          | (with_reducible first | apply Br.tt | apply Br.ff | apply Br.no)
          | ((with_reducible apply Br.t); · assumption)
          | ((with_reducible apply Br.f); · assumption)
          | ((with_reducible apply Br.dt); · exact ab_known)
          | ((with_reducible apply Br.df); · exact ab_known)
          | (with_reducible first | refine Br.dec (fun hc => ?_) (fun hc => ?_) | refine Br.mk (fun hc => ?_) (fun hc => ?_))
          | (refine PreP.mk hrp ?_)
          | (refine PreP.mk hnz ?_)
          | (refine PreP.mk hsl ?_)
          | (refine EqP.mk hri ?_)
          | (refine EqP.mk hrc ?_)
          | (refine PreP.mk hpc ?_)
          | (refine PreP.mk hps ?_)
          | (refine OptP.some hlook ?_)
          | (refine PreP.mk ⟨keysOk_files k', rfl⟩ ?_)
          | (with_reducible apply DrawG.mk [false, false, false, false, false, false, false, false, false, false, false, false, false, false, false, false, true, false, false, true, false]; · decide +kernel)
          | ((with_reducible first | apply NeedRows.mk | apply NeedMap.mk | apply NeedIter.mk); · exact ab_look)
          | ((with_reducible apply NeedLen.mk); · first | assumption | rfl)
          | ((with_reducible apply NeedRow.mk); · exact ab_lookR)
          | ((with_reducible apply DrawG.mk (List.replicate 60 false)); · decide +kernel)
          | (with_reducible first | refine NewP.mk (fun id hid => ?_) | refine NilP.mk (fun e he => ?_))
          | (with_reducible first | exact trivial | exact And.intro rfl rfl)
          | ((with_reducible apply PreP.mk); · exact ab_asked)
          | refine Exists.intro _ (PreP.mk (bytesOf_lst _) ?_)
          | refine PreP.mk (lenD_lst _) ?_
          | (with_reducible first | refine PreP.mk ?_ ?_ | refine BothP.mk ?_ ?_)
          | ((with_reducible apply AncOr.anc); · decide +kernel)
          | with_reducible refine AncOr.go ?_)
        refine Run.keep _ ?_ (ih (i + 1) _ _ (by omega) ⟨by omega, rfl, closeS _ hhd rfl⟩)
        exact ⟨rfl, by rw [hd1]; exact hkeep, rfl, rfl, slot64 (by omega) (by omega) (by omega), trivial⟩
      have hci : (c.toNat : Int) ≠ 255 := fun e => h255 (by apply UInt8.toNat_inj.1; have : (255 : UInt8).toNat = 255 := rfl; omega)
      have hL : leftN1 c (pf f) = (pf f).kept + c.toNat % ((pf f).bytes.length - (pf f).kept + 1) := by simp [leftN1, h255]
      have hx0 := hx c
      rw [← hL] at hx0
      have hle := leftN1_le c (pf f) hpk
      have hlen2 : (f.bytes.take (leftN1 c (pf f))).length = leftN1 c (pf f) := by simp only [List.length_take]; exact Nat.min_eq_left hle
      have hhd : (cs.drop i).headD 0 = c := by rw [hdc]; rfl
      have hd1 : cs.drop (i + 1) = rest := by rw [← List.tail_drop, hdc]; rfl
      have hxt : (IntKind.i64.wrap (f.kept + (IntKind.i64.wrap (c.toNat : Int)).tmod (IntKind.i64.wrap (IntKind.i64.wrap ((f.bytes.length : Int) - f.kept) + 1)))).toNat - Int.toNat 0 = (f.bytes.take (leftN1 c (pf f))).length := by
        rw [hx0, hlen2]; simp
      have hsl : (0 : Int) ≤ 0 ∧ (0 : Int) ≤ IntKind.i64.wrap (f.kept + (IntKind.i64.wrap (c.toNat : Int)).tmod (IntKind.i64.wrap (IntKind.i64.wrap ((f.bytes.length : Int) - f.kept) + 1))) ∧
          IntKind.i64.wrap (f.kept + (IntKind.i64.wrap (c.toNat : Int)).tmod (IntKind.i64.wrap (IntKind.i64.wrap ((f.bytes.length : Int) - f.kept) + 1))) ≤ (f.bytes.length : Int) := by
        rw [hx0]; simp only [pf] at hle ⊢; omega
      rcases hff.2 with ⟨hbd, hbl⟩ | ⟨id, hbd, hrw⟩ | ⟨id, st, rs, hbd, hbl, hrw, hst⟩
      · rw [hbd] at hfr
        rw [hbl] at hnz hsl hlb
        repeat' (first
          | ((with_reducible apply Onw.mk); conv => whnf)
          | (with_reducible first | apply Br.tt | apply Br.ff | apply Br.no)
          | ((with_reducible apply Br.t); · assumption)
          | ((with_reducible apply Br.f); · assumption)
          | ((with_reducible apply Br.dt); · exact ab_known)
          | ((with_reducible apply Br.df); · exact ab_known)
          | (with_reducible first | refine Br.dec (fun hc => ?_) (fun hc => ?_) | refine Br.mk (fun hc => ?_) (fun hc => ?_))
          | (refine PreP.mk hrp ?_)
          | (refine PreP.mk hnz ?_)
          | (refine PreP.mk hsl ?_)
          | (refine EqP.mk hri ?_)
          | (refine EqP.mk hrc ?_)
          | (refine PreP.mk hpc ?_)
          | (refine PreP.mk hps ?_)
          | (refine OptP.some hlook ?_)
          | (refine PreP.mk ⟨keysOk_files k', rfl⟩ ?_)
          | (with_reducible apply DrawG.mk [false, false, false, false, false, false, false, false, false, false, false, false, false, false, false, false, true, false, false, true, false]; · decide +kernel)
          | ((with_reducible first | apply NeedRows.mk | apply NeedMap.mk | apply NeedIter.mk); · exact ab_look)
          | ((with_reducible apply NeedLen.mk); · first | assumption | rfl)
          | ((with_reducible apply NeedRow.mk); · exact ab_lookR)
          | ((with_reducible apply DrawG.mk (List.replicate 60 false)); · decide +kernel)
          | (with_reducible first | refine NewP.mk (fun id hid => ?_) | refine NilP.mk (fun e he => ?_))
          | (with_reducible first | exact trivial | exact And.intro rfl rfl)
          | ((with_reducible apply PreP.mk); · exact ab_asked)
          | refine Exists.intro _ (PreP.mk (bytesOf_lst _) ?_)
          | refine PreP.mk (lenD_lst _) ?_
          | (with_reducible first | refine PreP.mk ?_ ?_ | refine BothP.mk ?_ ?_)
          | ((with_reducible apply AncOr.anc); · decide +kernel)
          | with_reducible refine AncOr.go ?_)
        refine DetCall.go (c49t H' _ [] (.inl ⟨rfl, rfl⟩) (by simp)) ?_
        repeat' (first
          | ((with_reducible apply Onw.mk); conv => whnf)
          | (with_reducible first | apply Br.tt | apply Br.ff | apply Br.no)
          | ((with_reducible apply Br.t); · assumption)
          | ((with_reducible apply Br.f); · assumption)
          | ((with_reducible apply Br.dt); · exact ab_known)
          | ((with_reducible apply Br.df); · exact ab_known)
          | (with_reducible first | refine Br.dec (fun hc => ?_) (fun hc => ?_) | refine Br.mk (fun hc => ?_) (fun hc => ?_))
          | (refine PreP.mk hrp ?_)
          | (refine PreP.mk hnz ?_)
          | (refine PreP.mk hsl ?_)
          | (refine EqP.mk hri ?_)
          | (refine EqP.mk hrc ?_)
          | (refine PreP.mk hpc ?_)
          | (refine PreP.mk hps ?_)
          | (refine OptP.some hlook ?_)
          | (refine PreP.mk ⟨keysOk_files k', rfl⟩ ?_)
          | (with_reducible apply DrawG.mk [false, false, false, false, false, false, false, false, false, false, false, false, false, false, false, false, true, false, false, true, false]; · decide +kernel)
          | ((with_reducible first | apply NeedRows.mk | apply NeedMap.mk | apply NeedIter.mk); · exact ab_look)
          | ((with_reducible apply NeedLen.mk); · first | assumption | rfl)
          | ((with_reducible apply NeedRow.mk); · exact ab_lookR)
          | ((with_reducible apply DrawG.mk (List.replicate 60 false)); · decide +kernel)
          | (with_reducible first | refine NewP.mk (fun id hid => ?_) | refine NilP.mk (fun e he => ?_))
          | (with_reducible first | exact trivial | exact And.intro rfl rfl)
          | ((with_reducible apply PreP.mk); · exact ab_asked)
          | refine Exists.intro _ (PreP.mk (bytesOf_lst _) ?_)
          | refine PreP.mk (lenD_lst _) ?_
          | (with_reducible first | refine PreP.mk ?_ ?_ | refine BothP.mk ?_ ?_)
          | ((with_reducible apply AncOr.anc); · decide +kernel)
          | with_reducible refine AncOr.go ?_)
        refine Run.keep _ ?_ (ih (i + 1) _ _ (by omega) ⟨by omega, rfl, closeC c hhd h255 _ _ (by rw [hbl, List.take_nil]; rfl)⟩)
        exact ⟨rfl, by rw [hd1]; exact hkeep, rfl, rfl, slot64 (by omega) (by omega) (by omega), trivial⟩
      · rw [hbd] at hfr
        repeat' (first
          | ((with_reducible apply Onw.mk); conv => whnf)
          | (with_reducible first | apply Br.tt | apply Br.ff | apply Br.no)
          | ((with_reducible apply Br.t); · assumption)
          | ((with_reducible apply Br.f); · assumption)
          | ((with_reducible apply Br.dt); · exact ab_known)
          | ((with_reducible apply Br.df); · exact ab_known)
          | (with_reducible first | refine Br.dec (fun hc => ?_) (fun hc => ?_) | refine Br.mk (fun hc => ?_) (fun hc => ?_))
          | (refine PreP.mk hrp ?_)
          | (refine PreP.mk hnz ?_)
          | (refine PreP.mk hsl ?_)
          | (refine EqP.mk hri ?_)
          | (refine EqP.mk hrc ?_)
          | (refine PreP.mk hpc ?_)
          | (refine PreP.mk hps ?_)
          | (refine OptP.some hlook ?_)
          | (refine PreP.mk ⟨keysOk_files k', rfl⟩ ?_)
          | (with_reducible apply DrawG.mk [false, false, false, false, false, false, false, false, false, false, false, false, false, false, false, false, true, false, false, true, false]; · decide +kernel)
          | ((with_reducible first | apply NeedRows.mk | apply NeedMap.mk | apply NeedIter.mk); · exact ab_look)
          | ((with_reducible apply NeedLen.mk); · first | assumption | rfl)
          | ((with_reducible apply NeedRow.mk); · exact ab_lookR)
          | ((with_reducible apply DrawG.mk (List.replicate 60 false)); · decide +kernel)
          | (with_reducible first | refine NewP.mk (fun id hid => ?_) | refine NilP.mk (fun e he => ?_))
          | (with_reducible first | exact trivial | exact And.intro rfl rfl)
          | ((with_reducible apply PreP.mk); · exact ab_asked)
          | refine Exists.intro _ (PreP.mk (bytesOf_lst _) ?_)
          | refine PreP.mk (lenD_lst _) ?_
          | (with_reducible first | refine PreP.mk ?_ ?_ | refine BothP.mk ?_ ?_)
          | ((with_reducible apply AncOr.anc); · decide +kernel)
          | with_reducible refine AncOr.go ?_)
        refine DetCall.go (c49t H' _ (f.bytes.take (leftN1 c (pf f))) (.inr (.inl ⟨id, _, congrArg (fun n => D.own id 1 0 n none) hxt, hrw, by rw [hlen2, List.map_take], by simp [hlen2]; exact hle⟩)) (by omega)) ?_
        repeat' (first
          | ((with_reducible apply Onw.mk); conv => whnf)
          | (with_reducible first | apply Br.tt | apply Br.ff | apply Br.no)
          | ((with_reducible apply Br.t); · assumption)
          | ((with_reducible apply Br.f); · assumption)
          | ((with_reducible apply Br.dt); · exact ab_known)
          | ((with_reducible apply Br.df); · exact ab_known)
          | (with_reducible first | refine Br.dec (fun hc => ?_) (fun hc => ?_) | refine Br.mk (fun hc => ?_) (fun hc => ?_))
          | (refine PreP.mk hrp ?_)
          | (refine PreP.mk hnz ?_)
          | (refine PreP.mk hsl ?_)
          | (refine EqP.mk hri ?_)
          | (refine EqP.mk hrc ?_)
          | (refine PreP.mk hpc ?_)
          | (refine PreP.mk hps ?_)
          | (refine OptP.some hlook ?_)
          | (refine PreP.mk ⟨keysOk_files k', rfl⟩ ?_)
          | (with_reducible apply DrawG.mk [false, false, false, false, false, false, false, false, false, false, false, false, false, false, false, false, true, false, false, true, false]; · decide +kernel)
          | ((with_reducible first | apply NeedRows.mk | apply NeedMap.mk | apply NeedIter.mk); · exact ab_look)
          | ((with_reducible apply NeedLen.mk); · first | assumption | rfl)
          | ((with_reducible apply NeedRow.mk); · exact ab_lookR)
          | ((with_reducible apply DrawG.mk (List.replicate 60 false)); · decide +kernel)
          | (with_reducible first | refine NewP.mk (fun id hid => ?_) | refine NilP.mk (fun e he => ?_))
          | (with_reducible first | exact trivial | exact And.intro rfl rfl)
          | ((with_reducible apply PreP.mk); · exact ab_asked)
          | refine Exists.intro _ (PreP.mk (bytesOf_lst _) ?_)
          | refine PreP.mk (lenD_lst _) ?_
          | (with_reducible first | refine PreP.mk ?_ ?_ | refine BothP.mk ?_ ?_)
          | ((with_reducible apply AncOr.anc); · decide +kernel)
          | with_reducible refine AncOr.go ?_)
        refine Run.keep _ ?_ (ih (i + 1) _ _ (by omega) ⟨by omega, rfl, closeC c hhd h255 _ _ rfl⟩)
        exact ⟨rfl, by rw [hd1]; exact hkeep, rfl, rfl, slot64 (by omega) (by omega) (by omega), trivial⟩
      · rw [hbd] at hfr
        rw [hbl] at hnz hsl hlb hxt
        rw [List.take_nil] at hxt
        repeat' (first
          | ((with_reducible apply Onw.mk); conv => whnf)
          | (with_reducible first | apply Br.tt | apply Br.ff | apply Br.no)
          | ((with_reducible apply Br.t); · assumption)
          | ((with_reducible apply Br.f); · assumption)
          | ((with_reducible apply Br.dt); · exact ab_known)
          | ((with_reducible apply Br.df); · exact ab_known)
          | (with_reducible first | refine Br.dec (fun hc => ?_) (fun hc => ?_) | refine Br.mk (fun hc => ?_) (fun hc => ?_))
          | (refine PreP.mk hrp ?_)
          | (refine PreP.mk hnz ?_)
          | (refine PreP.mk hsl ?_)
          | (refine EqP.mk hri ?_)
          | (refine EqP.mk hrc ?_)
          | (refine PreP.mk hpc ?_)
          | (refine PreP.mk hps ?_)
          | (refine OptP.some hlook ?_)
          | (refine PreP.mk ⟨keysOk_files k', rfl⟩ ?_)
          | (with_reducible apply DrawG.mk [false, false, false, false, false, false, false, false, false, false, false, false, false, false, false, false, true, false, false, true, false]; · decide +kernel)
          | ((with_reducible first | apply NeedRows.mk | apply NeedMap.mk | apply NeedIter.mk); · exact ab_look)
          | ((with_reducible apply NeedLen.mk); · first | assumption | rfl)
          | ((with_reducible apply NeedRow.mk); · exact ab_lookR)
          | ((with_reducible apply DrawG.mk (List.replicate 60 false)); · decide +kernel)
          | (with_reducible first | refine NewP.mk (fun id hid => ?_) | refine NilP.mk (fun e he => ?_))
          | (with_reducible first | exact trivial | exact And.intro rfl rfl)
          | ((with_reducible apply PreP.mk); · exact ab_asked)
          | refine Exists.intro _ (PreP.mk (bytesOf_lst _) ?_)
          | refine PreP.mk (lenD_lst _) ?_
          | (with_reducible first | refine PreP.mk ?_ ?_ | refine BothP.mk ?_ ?_)
          | ((with_reducible apply AncOr.anc); · decide +kernel)
          | with_reducible refine AncOr.go ?_)
        refine DetCall.go (c49t H' _ [] (.inr (.inr ⟨id, st, rs, congrArg (fun n => D.own id 1 st n (some 0)) hxt, rfl, hrw, hst⟩)) (by simp)) ?_
        repeat' (first
          | ((with_reducible apply Onw.mk); conv => whnf)
          | (with_reducible first | apply Br.tt | apply Br.ff | apply Br.no)
          | ((with_reducible apply Br.t); · assumption)
          | ((with_reducible apply Br.f); · assumption)
          | ((with_reducible apply Br.dt); · exact ab_known)
          | ((with_reducible apply Br.df); · exact ab_known)
          | (with_reducible first | refine Br.dec (fun hc => ?_) (fun hc => ?_) | refine Br.mk (fun hc => ?_) (fun hc => ?_))
          | (refine PreP.mk hrp ?_)
          | (refine PreP.mk hnz ?_)
          | (refine PreP.mk hsl ?_)
          | (refine EqP.mk hri ?_)
          | (refine EqP.mk hrc ?_)
          | (refine PreP.mk hpc ?_)
          | (refine PreP.mk hps ?_)
          | (refine OptP.some hlook ?_)
          | (refine PreP.mk ⟨keysOk_files k', rfl⟩ ?_)
          | (with_reducible apply DrawG.mk [false, false, false, false, false, false, false, false, false, false, false, false, false, false, false, false, true, false, false, true, false]; · decide +kernel)
          | ((with_reducible first | apply NeedRows.mk | apply NeedMap.mk | apply NeedIter.mk); · exact ab_look)
          | ((with_reducible apply NeedLen.mk); · first | assumption | rfl)
          | ((with_reducible apply NeedRow.mk); · exact ab_lookR)
          | ((with_reducible apply DrawG.mk (List.replicate 60 false)); · decide +kernel)
          | (with_reducible first | refine NewP.mk (fun id hid => ?_) | refine NilP.mk (fun e he => ?_))
          | (with_reducible first | exact trivial | exact And.intro rfl rfl)
          | ((with_reducible apply PreP.mk); · exact ab_asked)
          | refine Exists.intro _ (PreP.mk (bytesOf_lst _) ?_)
          | refine PreP.mk (lenD_lst _) ?_
          | (with_reducible first | refine PreP.mk ?_ ?_ | refine BothP.mk ?_ ?_)
          | ((with_reducible apply AncOr.anc); · decide +kernel)
          | with_reducible refine AncOr.go ?_)
        refine Run.keep _ ?_ (ih (i + 1) _ _ (by omega) ⟨by omega, rfl, closeC c hhd h255 _ _ (by rw [hbl, List.take_nil]; rfl)⟩)
        exact ⟨rfl, by rw [hd1]; exact hkeep, rfl, rfl, slot64 (by omega) (by omega) (by omega), trivial⟩
  · have hie : i = (namesS k).length := by omega
    have hdn : (namesS k).drop i = [] := List.drop_eq_nil_of_le hil
    rw [hdn] at e5
    refine Run.walk hm Try.func18 100 ?_
    repeat' (first
      | ((with_reducible apply Onw.mk); conv => whnf)
      | (with_reducible first | apply Br.tt | apply Br.ff | apply Br.no)
      | ((with_reducible apply Br.t); · assumption)
      | ((with_reducible apply Br.f); · assumption)
      | ((with_reducible apply Br.dt); · exact ab_known)
      | ((with_reducible apply Br.df); · exact ab_known)
      | (with_reducible first | refine Br.dec (fun hc => ?_) (fun hc => ?_) | refine Br.mk (fun hc => ?_) (fun hc => ?_))
      | ((with_reducible first | apply NeedRows.mk | apply NeedMap.mk | apply NeedIter.mk); · exact ab_look)
      | ((with_reducible apply NeedLen.mk); · first | assumption | rfl)
      | ((with_reducible apply NeedRow.mk); · exact ab_lookR)
      | ((with_reducible apply DrawG.mk (List.replicate 60 false)); · decide +kernel)
      | (with_reducible first | refine NewP.mk (fun id hid => ?_) | refine NilP.mk (fun e he => ?_))
      | (with_reducible first | exact trivial | exact And.intro rfl rfl)
      | ((with_reducible apply PreP.mk); · exact ab_asked)
      | refine Exists.intro _ (PreP.mk (bytesOf_lst _) ?_)
      | refine PreP.mk (lenD_lst _) ?_
      | (with_reducible first | refine PreP.mk ?_ ?_ | refine BothP.mk ?_ ?_)
      | ((with_reducible apply AncOr.anc); · decide +kernel)
      | with_reducible refine AncOr.go ?_)
    exact ⟨rfl, k', hd, hgo, e1, e2, e3, e5, hk'⟩
end Go.Proofs.Ytanknokhbfijdaa
