/- What functions of the disk, and of the laws over it, do. Conditions: those that each theorem names. -/
import Derived.Test.YtanknokhbfijdaaD15
set_option linter.unusedVariables false
set_option linter.unusedSimpArgs false
namespace Go.Proofs.Ytanknokhbfijdaa
open Go.Ab
set_option maxRecDepth 100000
set_option maxHeartbeats 1000000
attribute [local irreducible] Run CallOK DetCall Br PreP BothP AncOr Onw NeedRows NeedMap NeedRow NeedLen NilP NeedIter RoundP EntryP EqP OptP NewP NewSlice NewMade AppTo DrawG anc drawB
theorem DiskIs.names {H : Heap} {d : Nat} {m : Ds} {ids : List Nat} (h : DiskIs H d m ids) : (m.files.map (·.name)).Nodup := by
  obtain ⟨k, h, _, rfl, _⟩ := h
  have := h.names
  simp only [plain, List.map_map]
  exact this
theorem sum_add_one (name b : List UInt8) : ∀ (l : List PF), (l.map (·.name)).Nodup → ((l.map fun p => if p.name = name then { p with bytes := p.bytes ++ b } else p).map (·.bytes.length)).sum = (l.map (·.bytes.length)).sum + (if (l.find? fun p => decide (name = p.name)).isSome then b.length else 0)
  | [], _ => by simp
  | p :: l, hn => by
    rw [List.map_cons, List.nodup_cons] at hn
    have ih := sum_add_one name b l hn.2
    by_cases e : p.name = name
    · have hno : (l.find? fun p => decide (name = p.name)) = none := by
        rw [List.find?_eq_none]
        intro g hg e2
        have e3 : name = g.name := by simpa using e2
        exact hn.1 (List.mem_map.2 ⟨g, hg, by rw [← e3, e]⟩)
      rw [hno] at ih
      simp only [List.map_cons, List.sum_cons, e, if_true, List.find?_cons, decide_true, Option.isSome_some]
      simp at ih ⊢
      omega
    · have e2 : ¬ name = p.name := fun h => e h.symm
      simp only [List.map_cons, List.sum_cons, e, if_false, List.find?_cons, e2, decide_false]
      omega
theorem usedM_app {m : Ds} (hn : (m.files.map (·.name)).Nodup) (name b : List UInt8) (hR : appendR m name b = 0) : usedM (appendM m name b) = usedM m + b.length ∧ (appendM m name b).files.length ≤ m.files.length + 1 := by
  have e : (appendR m name b == 0) = true := by rw [hR]; rfl
  unfold appendM
  rw [e]
  simp only [cond_true, usedM, addP]
  cases h : (m.files.find? fun p => decide (name = p.name)).isSome with
  | true =>
    have := sum_add_one name b m.files hn
    rw [h] at this
    simp only [if_true] at this ⊢
    exact ⟨this, by simp⟩
  | false => simp
theorem appR_val {m : Ds} {name b : List UInt8} (h1 : offB (m.steps + 1) m.off = false) (h2 : okName name = true) (h4 : m.quota ≤ 1000000) (h5 : 0 ≤ m.quota) (h6 : usedM m ≤ 10000000) (h7 : m.files.length < 50) : appendR m name b = if m.quota - usedM m < b.length then 211 else 0 := by
  unfold appendR
  have hw : IntKind.i64.wrap (m.quota - (usedM m : Int)) = m.quota - usedM m := wrap64 (by omega) (by omega)
  have e2 : decide (50 ≤ m.files.length) = false := decide_eq_false (by omega)
  rw [h1, h2]
  unfold fullM
  rw [hw, e2]
  by_cases hc : m.quota - (usedM m : Int) < b.length
  · simp [hc]
  · simp [hc]
theorem appM_fields (m : Ds) (name b : List UInt8) : (appendM m name b).steps = m.steps + 1 ∧ (appendM m name b).off = m.off ∧ (appendM m name b).quota = m.quota := by
  unfold appendM
  cases appendR m name b == 0 <;> exact ⟨rfl, rfl, rfl⟩
theorem appM_not {m : Ds} {name b : List UInt8} (h : appendR m name b ≠ 0) : (appendM m name b).files = m.files := by
  have e : (appendR m name b == 0) = false := by simpa using h
  unfold appendM
  rw [e]; rfl
/-- The disk of the law, behind so many rounds. -/
def FulM (m : Ds) (q used i : Nat) : Prop := m.steps = i ∧ m.off = 0 ∧ m.quota = q ∧ usedM m = used ∧ used ≤ q ∧ m.files.length ≤ i
theorem FulM.ok {m : Ds} {q used i : Nat} (h : FulM m q used i) (hi : i ≤ 100) (hq : q ≤ 10000) : DsOK m := by
  obtain ⟨h1, h2, h3, h4, h5, h6⟩ := h
  exact ⟨by omega, by omega, by omega, by omega⟩
theorem FulM.app {m : Ds} {q used i : Nat} (h : FulM m q used i) (hi : i ≤ 45) (hq : q ≤ 10000) (hn : (m.files.map (·.name)).Nodup) {name : List UInt8} (hname : okName name = true) (b : List UInt8) :
    appendR m name b = (if q < used + b.length then 211 else 0) ∧ FulM (appendM m name b) q (if q < used + b.length then used else used + b.length) (i + 1) := by
  obtain ⟨h1, h2, h3, h4, h5, h6⟩ := h
  have hR : appendR m name b = if m.quota - usedM m < b.length then 211 else 0 := appR_val (by rw [h2]; simp [offB]) hname (by omega) (by omega) (by omega) (by omega)
  rw [h3, h4] at hR
  have hf := appM_fields m name b
  by_cases hc : q < used + b.length
  · rw [if_pos (by omega)] at hR
    refine ⟨by rw [hR, if_pos hc], by rw [hf.1]; omega, by rw [hf.2.1, h2], by rw [hf.2.2, h3], ?_, ?_, ?_⟩
    · rw [if_pos hc]; unfold usedM; rw [appM_not (by rw [hR]; decide)]; exact h4
    · rw [if_pos hc]; exact h5
    · rw [appM_not (by rw [hR]; decide)]; omega
  · rw [if_neg (by omega)] at hR
    have hu := usedM_app hn name b hR
    refine ⟨by rw [hR, if_neg hc], by rw [hf.1]; omega, by rw [hf.2.1, h2], by rw [hf.2.2, h3], ?_, ?_, ?_⟩
    · rw [if_neg hc, hu.1, h4]
    · rw [if_neg hc]; omega
    · omega
theorem sum_erase {name : List UInt8} {p : PF} : ∀ {l : List PF}, (l.find? fun p => decide (name = p.name)) = some p → ((l.eraseP fun p => decide (name = p.name)).map (·.bytes.length)).sum + p.bytes.length = (l.map (·.bytes.length)).sum ∧ (l.eraseP fun p => decide (name = p.name)).length ≤ l.length
  | [], h => by cases h
  | g :: l, h => by
    rw [List.find?_cons] at h
    by_cases e : name = g.name
    · simp [e] at h
      subst h
      simp [List.eraseP_cons, e]; omega
    · simp [e] at h
      have ih := sum_erase (l := l) (by simpa using h)
      simp only [List.eraseP_cons, e, decide_false, cond_false, List.map_cons, List.sum_cons, List.length_cons]
      omega
theorem removeM_used {m : Ds} {name : List UInt8} {p : PF} (h : findM m name = some p) (hE : errM m name = 0) : usedM (removeM m name) + p.bytes.length = usedM m ∧ (removeM m name).steps = m.steps + 1 ∧ (removeM m name).off = m.off ∧ (removeM m name).quota = m.quota ∧ (removeM m name).files.length ≤ m.files.length := by
  have e : (errM m name == 0) = true := by rw [hE]; rfl
  unfold removeM
  rw [e]
  have := sum_erase h
  exact ⟨this.1, rfl, rfl, rfl, this.2⟩
theorem s4 (q0 : Nat) (hq0 : q0 < 65536) (sz : List UInt8) : Ab.Spec Try.prog 4 [.p (.int .u16 q0), .p (.lst (sz.map byteRow))] [] (fun r _ => r = boolD true) := by
  have hls : ((sz.map byteRow).length : Int) = sz.length := by simp
  refine Ab.Spec.walk hm Try.func4 (by kernel_rfl) 300 ?_
  repeat' (first
    | ((with_reducible apply Onw.mk); conv => whnf)
    | (with_reducible first | apply Br.tt | apply Br.ff | apply Br.no)
    | ((with_reducible apply Br.t); · assumption)
    | ((with_reducible apply Br.f); · assumption)
    | ((with_reducible apply Br.dt); · exact ab_known)
    | ((with_reducible apply Br.df); · exact ab_known)
    | (with_reducible first | refine Br.dec (fun hc => ?_) (fun hc => ?_) | refine Br.mk (fun hc => ?_) (fun hc => ?_))
    | ((with_reducible first | apply NeedRows.mk | apply NeedMap.mk | apply NeedIter.mk); · exact ab_look)
    | ((with_reducible apply NeedLen.mk); · first | assumption | rfl)
    | ((with_reducible apply NeedRow.mk); · exact ab_lookR)
    | ((with_reducible apply DrawG.mk (List.replicate 60 false)); · decide +kernel)
    | (with_reducible first | refine NewP.mk (fun id hid => ?_) | refine NilP.mk (fun e he => ?_))
    | (with_reducible first | exact trivial | exact And.intro rfl rfl)
    | ((with_reducible apply PreP.mk); · exact ab_asked)
    | refine Exists.intro _ (PreP.mk (bytesOf_lst _) ?_)
    | refine PreP.mk (lenD_lst _) ?_
    | (with_reducible first | refine PreP.mk ?_ ?_ | refine BothP.mk ?_ ?_)
    | ((with_reducible apply AncOr.anc); · decide +kernel)
    | with_reducible refine AncOr.go ?_)
  refine CallOK.go (c14 _) (fun r H0 hr => ?_)
  obtain ⟨rfl, rfl⟩ := hr
  repeat' (first
    | ((with_reducible apply Onw.mk); conv => whnf)
    | (with_reducible first | apply Br.tt | apply Br.ff | apply Br.no)
    | ((with_reducible apply Br.t); · assumption)
    | ((with_reducible apply Br.f); · assumption)
    | ((with_reducible apply Br.dt); · exact ab_known)
    | ((with_reducible apply Br.df); · exact ab_known)
    | (with_reducible first | refine Br.dec (fun hc => ?_) (fun hc => ?_) | refine Br.mk (fun hc => ?_) (fun hc => ?_))
    | ((with_reducible first | apply NeedRows.mk | apply NeedMap.mk | apply NeedIter.mk); · exact ab_look)
    | ((with_reducible apply NeedLen.mk); · first | assumption | rfl)
    | ((with_reducible apply NeedRow.mk); · exact ab_lookR)
    | ((with_reducible apply DrawG.mk (List.replicate 60 false)); · decide +kernel)
    | (with_reducible first | refine NewP.mk (fun id hid => ?_) | refine NilP.mk (fun e he => ?_))
    | (with_reducible first | exact trivial | exact And.intro rfl rfl)
    | ((with_reducible apply PreP.mk); · exact ab_asked)
    | refine Exists.intro _ (PreP.mk (bytesOf_lst _) ?_)
    | refine PreP.mk (lenD_lst _) ?_
    | (with_reducible first | refine PreP.mk ?_ ?_ | refine BothP.mk ?_ ?_)
    | ((with_reducible apply AncOr.anc); · decide +kernel)
    | with_reducible refine AncOr.go ?_)
  · exact rfl
  have hs2 : sz.length ≤ 40 := by omega
  have hq1 : IntKind.i64.wrap ((q0 : Int).tmod 2000) = ((q0 % 2000 : Nat) : Int) := by
    have e : ((q0 : Int).tmod 2000) = ((q0 % 2000 : Nat) : Int) := (Int.ofNat_tmod q0 2000).symm
    have := Nat.mod_lt q0 (show 2000 > 0 by decide)
    rw [e, wrap64 (by omega) (by omega)]
  have hq2 : q0 % 2000 < 2000 := Nat.mod_lt q0 (by decide)
  rw [hq1]
  generalize q0 % 2000 = q at hq1 hq2
  refine CallOK.go (a15 _ _) (fun r H0 hr => ?_)
  obtain ⟨d, ids0, rfl, hd0, hg0⟩ := hr
  repeat' (first
    | ((with_reducible apply Onw.mk); conv => whnf)
    | (with_reducible first | apply Br.tt | apply Br.ff | apply Br.no)
    | ((with_reducible apply Br.t); · assumption)
    | ((with_reducible apply Br.f); · assumption)
    | ((with_reducible apply Br.dt); · exact ab_known)
    | ((with_reducible apply Br.df); · exact ab_known)
    | (with_reducible first | refine Br.dec (fun hc => ?_) (fun hc => ?_) | refine Br.mk (fun hc => ?_) (fun hc => ?_))
    | ((with_reducible first | apply NeedRows.mk | apply NeedMap.mk | apply NeedIter.mk); · exact ab_look)
    | ((with_reducible apply NeedLen.mk); · first | assumption | rfl)
    | ((with_reducible apply NeedRow.mk); · exact ab_lookR)
    | ((with_reducible apply DrawG.mk (List.replicate 60 false)); · decide +kernel)
    | (with_reducible first | refine NewP.mk (fun id hid => ?_) | refine NilP.mk (fun e he => ?_))
    | (with_reducible first | exact trivial | exact And.intro rfl rfl)
    | ((with_reducible apply PreP.mk); · exact ab_asked)
    | refine Exists.intro _ (PreP.mk (bytesOf_lst _) ?_)
    | refine PreP.mk (lenD_lst _) ?_
    | (with_reducible first | refine PreP.mk ?_ ?_ | refine BothP.mk ?_ ?_)
    | ((with_reducible apply AncOr.anc); · decide +kernel)
    | with_reducible refine AncOr.go ?_)
  refine Run.keep [(1, .p (.lst (sz.map byteRow))), (5, i64 q), (6, .ptr d 0 0), (7, i64 (0 : Nat)), (8, i64 (0 : Nat))] ⟨rfl, rfl, rfl, rfl, rfl, trivial⟩ ?_
  refine Run.rounds (fun i T H' => i ≤ sz.length ∧ ∃ used : Nat, T = [(1, .p (.lst (sz.map byteRow))), (5, i64 q), (6, .ptr d 0 0), (7, i64 used), (8, i64 (i : Nat))] ∧ ∃ m ids, DiskIs H' d m ids ∧ FulM m q used i) (fun i => sz.length - i) ?_ (x := 0) ⟨by omega, 0, rfl, _, _, hd0, rfl, rfl, rfl, rfl, Nat.zero_le _, by simp⟩
  clear hd0 hg0
  rintro i T H' ⟨hi, used, rfl, m, ids, hd, hf⟩ ih
  rcases Nat.lt_or_ge i sz.length with hil | hil
  · obtain ⟨s, hs⟩ : ∃ s, sz[i]? = some s := ⟨_, List.getElem?_eq_getElem hil⟩
    have hri : Ab.rowAt (sz.map byteRow) (i : Int).toNat = byteRow s := rowAt_map hs
    have hrp : 0 ≤ (i : Int) ∧ (i : Int) < (sz.map byteRow).length ∧ (Ab.rowAt (sz.map byteRow) (i : Int).toNat).length = 1 := ⟨by omega, by omega, by rw [hri]; rfl⟩
    refine Run.walk hm Try.func4 100 ?_
    repeat' (first
      | ((with_reducible apply Onw.mk); conv => whnf)
      | (with_reducible first | apply Br.tt | apply Br.ff | apply Br.no)
      | ((with_reducible apply Br.t); · assumption)
      | ((with_reducible apply Br.f); · assumption)
      | ((with_reducible apply Br.dt); · exact ab_known)
      | ((with_reducible apply Br.df); · exact ab_known)
      | (with_reducible first | refine Br.dec (fun hc => ?_) (fun hc => ?_) | refine Br.mk (fun hc => ?_) (fun hc => ?_))
      | (refine PreP.mk hrp ?_)
      | (refine EqP.mk hri ?_)
      | (with_reducible apply DrawG.mk [false, false, false, false, false, false, false, false, false, false, false, false, false, false, true, false, false]; · decide +kernel)
      | ((with_reducible first | apply NeedRows.mk | apply NeedMap.mk | apply NeedIter.mk); · exact ab_look)
      | ((with_reducible apply NeedLen.mk); · first | assumption | rfl)
      | ((with_reducible apply NeedRow.mk); · exact ab_lookR)
      | ((with_reducible apply DrawG.mk (List.replicate 60 false)); · decide +kernel)
      | (with_reducible first | refine NewP.mk (fun id hid => ?_) | refine NilP.mk (fun e he => ?_))
      | (with_reducible first | exact trivial | exact And.intro rfl rfl)
      | ((with_reducible apply PreP.mk); · exact ab_asked)
      | refine Exists.intro _ (PreP.mk (bytesOf_lst _) ?_)
      | refine PreP.mk (lenD_lst _) ?_
      | (with_reducible first | refine PreP.mk ?_ ?_ | refine BothP.mk ?_ ?_)
      | ((with_reducible apply AncOr.anc); · decide +kernel)
      | with_reducible refine AncOr.go ?_)
    have hx : [D.p (.int .u8 (IntKind.u8.wrap (97 + IntKind.u8.wrap ((i : Int).tmod 3))))] = byteRowD (UInt8.ofNat (97 + i % 3)) := by
      have hm3 : i % 3 < 3 := Nat.mod_lt i (by decide)
      have e : ((i : Int).tmod 3) = ((i % 3 : Nat) : Int) := (Int.ofNat_tmod i 3).symm
      have h1 : (UInt8.ofNat (97 + i % 3)).toNat = 97 + i % 3 := by simp; omega
      simp only [byteRowD, h1, e]
      have hw : ∀ n : Nat, n < 256 → IntKind.u8.wrap (n : Int) = n := by
        intro n hn
        unfold IntKind.wrap
        simp [IntKind.bits, IntKind.signed]
        omega
      rw [hw _ (by omega)]
      have h2 := hw (97 + i % 3) (by omega)
      have h3 : ((97 + i % 3 : Nat) : Int) = 97 + ((i % 3 : Nat) : Int) := by omega
      rw [← h3, h2]
    have hok := hf.ok (by omega) (by omega)
    have hnn := hd.names
    obtain ⟨k, hdk, hkk, rfl, rfl⟩ := hd
    have hname : okName [102, UInt8.ofNat (97 + i % 3)] = true := by
      have hm3 : i % 3 < 3 := Nat.mod_lt i (by decide)
      have : i % 3 = 0 ∨ i % 3 = 1 ∨ i % 3 = 2 := by omega
      rcases this with e | e | e <;> rw [e] <;> decide
    have hap := hf.app (by omega) (by omega) hnn hname (List.replicate s.toNat 0)
    rw [List.length_replicate] at hap
    have hst := s.toNat_lt
    have hws : IntKind.i64.wrap (s.toNat : Int) = s.toNat := wrap64 (by omega) (by omega)
    have hmk : 0 ≤ IntKind.i64.wrap (s.toNat : Int) ∧ IntKind.i64.wrap (s.toNat : Int) ≤ IntKind.i64.wrap (s.toNat : Int) ∧ ((1 : Nat) : Int) * IntKind.i64.wrap (s.toNat : Int) ≤ maxRoom ∧ IntKind.i64.wrap (s.toNat : Int) ≤ maxS := by
      rw [hws]; unfold maxRoom maxS; omega
    have hcat : (⟨#[102]⟩ : ByteArray).data.toList.length + [UInt8.ofNat (97 + i % 3)].length ≤ maxS := (show (2 : Nat) ≤ maxS by unfold maxS; decide)
    refine NewSlice.bytes [UInt8.ofNat (97 + i % 3)] (congrArg (fun x => [x]) hx) rfl rfl ?_
    repeat' (first
      | ((with_reducible apply Onw.mk); conv => whnf)
      | (with_reducible first | apply Br.tt | apply Br.ff | apply Br.no)
      | ((with_reducible apply Br.t); · assumption)
      | ((with_reducible apply Br.f); · assumption)
      | ((with_reducible apply Br.dt); · exact ab_known)
      | ((with_reducible apply Br.df); · exact ab_known)
      | (with_reducible first | refine Br.dec (fun hc => ?_) (fun hc => ?_) | refine Br.mk (fun hc => ?_) (fun hc => ?_))
      | (refine PreP.mk hrp ?_)
      | (refine EqP.mk hri ?_)
      | (refine PreP.mk hmk ?_)
      | (refine PreP.mk hcat ?_)
      | ((with_reducible first | apply NeedRows.mk | apply NeedMap.mk | apply NeedIter.mk); · exact ab_look)
      | ((with_reducible apply NeedLen.mk); · first | assumption | rfl)
      | ((with_reducible apply NeedRow.mk); · exact ab_lookR)
      | ((with_reducible apply DrawG.mk (List.replicate 60 false)); · decide +kernel)
      | (with_reducible first | refine NewP.mk (fun id hid => ?_) | refine NilP.mk (fun e he => ?_))
      | (with_reducible first | exact trivial | exact And.intro rfl rfl)
      | ((with_reducible apply PreP.mk); · exact ab_asked)
      | refine Exists.intro _ (PreP.mk (bytesOf_lst _) ?_)
      | refine PreP.mk (lenD_lst _) ?_
      | (with_reducible first | refine PreP.mk ?_ ?_ | refine BothP.mk ?_ ?_)
      | ((with_reducible apply AncOr.anc); · decide +kernel)
      | with_reducible refine AncOr.go ?_)
    refine NewMade.bytes s.toNat hws hws rfl ?_
    repeat' (first
      | ((with_reducible apply Onw.mk); conv => whnf)
      | (with_reducible first | apply Br.tt | apply Br.ff | apply Br.no)
      | ((with_reducible apply Br.t); · assumption)
      | ((with_reducible apply Br.f); · assumption)
      | ((with_reducible apply Br.dt); · exact ab_known)
      | ((with_reducible apply Br.df); · exact ab_known)
      | (with_reducible first | refine Br.dec (fun hc => ?_) (fun hc => ?_) | refine Br.mk (fun hc => ?_) (fun hc => ?_))
      | ((with_reducible first | apply NeedRows.mk | apply NeedMap.mk | apply NeedIter.mk); · exact ab_look)
      | ((with_reducible apply NeedLen.mk); · first | assumption | rfl)
      | ((with_reducible apply NeedRow.mk); · exact ab_lookR)
      | ((with_reducible apply DrawG.mk (List.replicate 60 false)); · decide +kernel)
      | (with_reducible first | refine NewP.mk (fun id hid => ?_) | refine NilP.mk (fun e he => ?_))
      | (with_reducible first | exact trivial | exact And.intro rfl rfl)
      | ((with_reducible apply PreP.mk); · exact ab_asked)
      | refine Exists.intro _ (PreP.mk (bytesOf_lst _) ?_)
      | refine PreP.mk (lenD_lst _) ?_
      | (with_reducible first | refine PreP.mk ?_ ?_ | refine BothP.mk ?_ ?_)
      | ((with_reducible apply AncOr.anc); · decide +kernel)
      | with_reducible refine AncOr.go ?_)
    refine DetCall.go (c16k hdk hok [102, UInt8.ofNat (97 + i % 3)] (List.replicate s.toNat 0) (by simp) (by simp; omega)) ?_
    repeat' (first
      | ((with_reducible apply Onw.mk); conv => whnf)
      | (with_reducible first | apply Br.tt | apply Br.ff | apply Br.no)
      | ((with_reducible apply Br.t); · assumption)
      | ((with_reducible apply Br.f); · assumption)
      | ((with_reducible apply Br.dt); · exact ab_known)
      | ((with_reducible apply Br.df); · exact ab_known)
      | (with_reducible first | refine Br.dec (fun hc => ?_) (fun hc => ?_) | refine Br.mk (fun hc => ?_) (fun hc => ?_))
      | ((with_reducible first | apply NeedRows.mk | apply NeedMap.mk | apply NeedIter.mk); · exact ab_look)
      | ((with_reducible apply NeedLen.mk); · first | assumption | rfl)
      | ((with_reducible apply NeedRow.mk); · exact ab_lookR)
      | ((with_reducible apply DrawG.mk (List.replicate 60 false)); · decide +kernel)
      | (with_reducible first | refine NewP.mk (fun id hid => ?_) | refine NilP.mk (fun e he => ?_))
      | (with_reducible first | exact trivial | exact And.intro rfl rfl)
      | ((with_reducible apply PreP.mk); · exact ab_asked)
      | refine Exists.intro _ (PreP.mk (bytesOf_lst _) ?_)
      | refine PreP.mk (lenD_lst _) ?_
      | (with_reducible first | refine PreP.mk ?_ ?_ | refine BothP.mk ?_ ?_)
      | ((with_reducible apply AncOr.anc); · decide +kernel)
      | with_reducible refine AncOr.go ?_)
    rw [appendE_plain, hap.1]
    obtain ⟨ids1, hd1, hg1⟩ := appendHk_is hdk hkk hok [102, UInt8.ofNat (97 + i % 3)] (List.replicate s.toNat 0) (by simp; omega)
    have hok1 := hap.2.ok (by omega) (by omega)
    have hu1 := hap.2.2.2.2.1
    have hw2 : IntKind.i64.wrap ((used : Int) + s.toNat) = ((used + s.toNat : Nat) : Int) := by
      have := hf.2.2.2.2.1
      rw [wrap64 (by omega) (by omega)]; omega
    have husq := hf.2.2.2.2.1
    have hw3 : IntKind.i64.wrap ((used : Int) + IntKind.i64.wrap (s.toNat : Int)) = ((used + s.toNat : Nat) : Int) := by rw [hws]; exact hw2
    rcases Nat.lt_or_ge q (used + s.toNat) with hlt | hge
    · rw [if_pos hlt] at hap hu1 ⊢
      have hle : ¬ IntKind.i64.wrap ((used : Int) + IntKind.i64.wrap (s.toNat : Int)) ≤ (q : Int) := by rw [hw3]; omega
      have hbe : (decide ((211 : Int) = 0) == decide (IntKind.i64.wrap ((used : Int) + IntKind.i64.wrap (s.toNat : Int)) ≤ (q : Int))) = true := by rw [decide_eq_false hle]; rfl
      repeat' (first
        | ((with_reducible apply Onw.mk); conv => whnf)
        | (with_reducible first | apply Br.tt | apply Br.ff | apply Br.no)
        | ((with_reducible apply Br.t); · assumption)
        | ((with_reducible apply Br.f); · assumption)
        | ((with_reducible apply Br.dt); · exact ab_known)
        | ((with_reducible apply Br.df); · exact ab_known)
        | (with_reducible first | refine Br.dec (fun hc => ?_) (fun hc => ?_) | refine Br.mk (fun hc => ?_) (fun hc => ?_))
        | (refine PreP.mk hrp ?_)
        | (refine EqP.mk hri ?_)
        | ((with_reducible first | apply NeedRows.mk | apply NeedMap.mk | apply NeedIter.mk); · exact ab_look)
        | ((with_reducible apply NeedLen.mk); · first | assumption | rfl)
        | ((with_reducible apply NeedRow.mk); · exact ab_lookR)
        | ((with_reducible apply DrawG.mk (List.replicate 60 false)); · decide +kernel)
        | (with_reducible first | refine NewP.mk (fun id hid => ?_) | refine NilP.mk (fun e he => ?_))
        | (with_reducible first | exact trivial | exact And.intro rfl rfl)
        | ((with_reducible apply PreP.mk); · exact ab_asked)
        | refine Exists.intro _ (PreP.mk (bytesOf_lst _) ?_)
        | refine PreP.mk (lenD_lst _) ?_
        | (with_reducible first | refine PreP.mk ?_ ?_ | refine BothP.mk ?_ ?_)
        | ((with_reducible apply AncOr.anc); · decide +kernel)
        | with_reducible refine AncOr.go ?_)
      refine CallOK.go (a20 hd1 hok1) (fun r H2 hr => ?_)
      obtain ⟨rfl, rfl⟩ := hr
      rw [hu1]
      repeat' (first
        | ((with_reducible apply Onw.mk); conv => whnf)
        | (with_reducible first | apply Br.tt | apply Br.ff | apply Br.no)
        | ((with_reducible apply Br.t); · assumption)
        | ((with_reducible apply Br.f); · assumption)
        | ((with_reducible apply Br.dt); · exact ab_known)
        | ((with_reducible apply Br.df); · exact ab_known)
        | (with_reducible first | refine Br.dec (fun hc => ?_) (fun hc => ?_) | refine Br.mk (fun hc => ?_) (fun hc => ?_))
        | ((with_reducible first | apply NeedRows.mk | apply NeedMap.mk | apply NeedIter.mk); · exact ab_look)
        | ((with_reducible apply NeedLen.mk); · first | assumption | rfl)
        | ((with_reducible apply NeedRow.mk); · exact ab_lookR)
        | ((with_reducible apply DrawG.mk (List.replicate 60 false)); · decide +kernel)
        | (with_reducible first | refine NewP.mk (fun id hid => ?_) | refine NilP.mk (fun e he => ?_))
        | (with_reducible first | exact trivial | exact And.intro rfl rfl)
        | ((with_reducible apply PreP.mk); · exact ab_asked)
        | refine Exists.intro _ (PreP.mk (bytesOf_lst _) ?_)
        | refine PreP.mk (lenD_lst _) ?_
        | (with_reducible first | refine PreP.mk ?_ ?_ | refine BothP.mk ?_ ?_)
        | ((with_reducible apply AncOr.anc); · decide +kernel)
        | with_reducible refine AncOr.go ?_)
      refine Run.keep _ ?_ (ih (i + 1) _ _ (by omega) ⟨by omega, used, rfl, _, _, hd1, by have := hap.2; rw [if_pos hlt] at this; exact this⟩)
      exact ⟨rfl, rfl, rfl, rfl, slot64 (by omega) (by omega) (by omega), trivial⟩
    · rw [if_neg (by omega)] at hap hu1 ⊢
      have hle : IntKind.i64.wrap ((used : Int) + IntKind.i64.wrap (s.toNat : Int)) ≤ (q : Int) := by rw [hw3]; omega
      have hbe : (decide ((0 : Int) = 0) == decide (IntKind.i64.wrap ((used : Int) + IntKind.i64.wrap (s.toNat : Int)) ≤ (q : Int))) = true := by rw [decide_eq_true hle]; rfl
      repeat' (first
        | ((with_reducible apply Onw.mk); conv => whnf)
        | (with_reducible first | apply Br.tt | apply Br.ff | apply Br.no)
        | ((with_reducible apply Br.t); · assumption)
        | ((with_reducible apply Br.f); · assumption)
        | ((with_reducible apply Br.dt); · exact ab_known)
        | ((with_reducible apply Br.df); · exact ab_known)
        | (with_reducible first | refine Br.dec (fun hc => ?_) (fun hc => ?_) | refine Br.mk (fun hc => ?_) (fun hc => ?_))
        | (refine PreP.mk hrp ?_)
        | (refine EqP.mk hri ?_)
        | ((with_reducible first | apply NeedRows.mk | apply NeedMap.mk | apply NeedIter.mk); · exact ab_look)
        | ((with_reducible apply NeedLen.mk); · first | assumption | rfl)
        | ((with_reducible apply NeedRow.mk); · exact ab_lookR)
        | ((with_reducible apply DrawG.mk (List.replicate 60 false)); · decide +kernel)
        | (with_reducible first | refine NewP.mk (fun id hid => ?_) | refine NilP.mk (fun e he => ?_))
        | (with_reducible first | exact trivial | exact And.intro rfl rfl)
        | ((with_reducible apply PreP.mk); · exact ab_asked)
        | refine Exists.intro _ (PreP.mk (bytesOf_lst _) ?_)
        | refine PreP.mk (lenD_lst _) ?_
        | (with_reducible first | refine PreP.mk ?_ ?_ | refine BothP.mk ?_ ?_)
        | ((with_reducible apply AncOr.anc); · decide +kernel)
        | with_reducible refine AncOr.go ?_)
      refine CallOK.go (a20 hd1 hok1) (fun r H2 hr => ?_)
      obtain ⟨rfl, rfl⟩ := hr
      rw [hu1]
      have huse : (((used + s.toNat : Nat) : Int)) = IntKind.i64.wrap ((used : Int) + IntKind.i64.wrap (s.toNat : Int)) := hw3.symm
      repeat' (first
        | ((with_reducible apply Onw.mk); conv => whnf)
        | (with_reducible first | apply Br.tt | apply Br.ff | apply Br.no)
        | ((with_reducible apply Br.t); · assumption)
        | ((with_reducible apply Br.f); · assumption)
        | ((with_reducible apply Br.dt); · exact ab_known)
        | ((with_reducible apply Br.df); · exact ab_known)
        | (with_reducible first | refine Br.dec (fun hc => ?_) (fun hc => ?_) | refine Br.mk (fun hc => ?_) (fun hc => ?_))
        | ((with_reducible first | apply NeedRows.mk | apply NeedMap.mk | apply NeedIter.mk); · exact ab_look)
        | ((with_reducible apply NeedLen.mk); · first | assumption | rfl)
        | ((with_reducible apply NeedRow.mk); · exact ab_lookR)
        | ((with_reducible apply DrawG.mk (List.replicate 60 false)); · decide +kernel)
        | (with_reducible first | refine NewP.mk (fun id hid => ?_) | refine NilP.mk (fun e he => ?_))
        | (with_reducible first | exact trivial | exact And.intro rfl rfl)
        | ((with_reducible apply PreP.mk); · exact ab_asked)
        | refine Exists.intro _ (PreP.mk (bytesOf_lst _) ?_)
        | refine PreP.mk (lenD_lst _) ?_
        | (with_reducible first | refine PreP.mk ?_ ?_ | refine BothP.mk ?_ ?_)
        | ((with_reducible apply AncOr.anc); · decide +kernel)
        | with_reducible refine AncOr.go ?_)
      refine Run.keep _ ?_ (ih (i + 1) _ _ (by omega) ⟨by omega, used + s.toNat, rfl, _, _, hd1, by have := hap.2; rw [if_neg (by omega)] at this; exact this⟩)
      exact ⟨rfl, rfl, rfl, congrArg (fun x => some (i64 x)) hw3, slot64 (by omega) (by omega) (by omega), trivial⟩
  · obtain rfl : i = sz.length := by omega
    have hok := hf.ok (by omega) (by omega)
    refine Run.walk hm Try.func4 100 ?_
    repeat' (first
      | ((with_reducible apply Onw.mk); conv => whnf)
      | (with_reducible first | apply Br.tt | apply Br.ff | apply Br.no)
      | ((with_reducible apply Br.t); · assumption)
      | ((with_reducible apply Br.f); · assumption)
      | ((with_reducible apply Br.dt); · exact ab_known)
      | ((with_reducible apply Br.df); · exact ab_known)
      | (with_reducible first | refine Br.dec (fun hc => ?_) (fun hc => ?_) | refine Br.mk (fun hc => ?_) (fun hc => ?_))
      | ((with_reducible first | apply NeedRows.mk | apply NeedMap.mk | apply NeedIter.mk); · exact ab_look)
      | ((with_reducible apply NeedLen.mk); · first | assumption | rfl)
      | ((with_reducible apply NeedRow.mk); · exact ab_lookR)
      | ((with_reducible apply DrawG.mk (List.replicate 60 false)); · decide +kernel)
      | (with_reducible first | refine NewP.mk (fun id hid => ?_) | refine NilP.mk (fun e he => ?_))
      | (with_reducible first | exact trivial | exact And.intro rfl rfl)
      | ((with_reducible apply PreP.mk); · exact ab_asked)
      | refine Exists.intro _ (PreP.mk (bytesOf_lst _) ?_)
      | refine PreP.mk (lenD_lst _) ?_
      | (with_reducible first | refine PreP.mk ?_ ?_ | refine BothP.mk ?_ ?_)
      | ((with_reducible apply AncOr.anc); · decide +kernel)
      | with_reducible refine AncOr.go ?_)
    have husq := hf.2.2.2.2.1
    have hoff : offB m.steps m.off = false := by rw [hf.2.1]; simp [offB]
    have hoff1 : offB (m.steps + 1) m.off = false := by rw [hf.2.1]; simp [offB]
    refine CallOK.go (a19 hd [102, 97]) (fun r H1 hr => ?_)
    obtain ⟨rfl, rfl⟩ := hr
    cases hfi : findM m [102, 97] with
    | none =>
      have hR : readM m [102, 97] = .tup [.p .nil, i64 210] := by unfold readM; rw [hoff, hfi]; rfl
      have hE : errM m [102, 97] = 210 := by unfold errM; rw [hoff1, hfi]; rfl
      rw [hR]
      repeat' (first
        | ((with_reducible apply Onw.mk); conv => whnf)
        | (with_reducible first | apply Br.tt | apply Br.ff | apply Br.no)
        | ((with_reducible apply Br.t); · assumption)
        | ((with_reducible apply Br.f); · assumption)
        | ((with_reducible apply Br.dt); · exact ab_known)
        | ((with_reducible apply Br.df); · exact ab_known)
        | (with_reducible first | refine Br.dec (fun hc => ?_) (fun hc => ?_) | refine Br.mk (fun hc => ?_) (fun hc => ?_))
        | ((with_reducible first | apply NeedRows.mk | apply NeedMap.mk | apply NeedIter.mk); · exact ab_look)
        | ((with_reducible apply NeedLen.mk); · first | assumption | rfl)
        | ((with_reducible apply NeedRow.mk); · exact ab_lookR)
        | ((with_reducible apply DrawG.mk (List.replicate 60 false)); · decide +kernel)
        | (with_reducible first | refine NewP.mk (fun id hid => ?_) | refine NilP.mk (fun e he => ?_))
        | (with_reducible first | exact trivial | exact And.intro rfl rfl)
        | ((with_reducible apply PreP.mk); · exact ab_asked)
        | refine Exists.intro _ (PreP.mk (bytesOf_lst _) ?_)
        | refine PreP.mk (lenD_lst _) ?_
        | (with_reducible first | refine PreP.mk ?_ ?_ | refine BothP.mk ?_ ?_)
        | ((with_reducible apply AncOr.anc); · decide +kernel)
        | with_reducible refine AncOr.go ?_)
      refine CallOK.go (a21 hd hok [102, 97]) (fun r H2 hr => ?_)
      obtain ⟨rfl, ids2, hd2, hg2⟩ := hr
      rw [hE]
      repeat' (first
        | ((with_reducible apply Onw.mk); conv => whnf)
        | (with_reducible first | apply Br.tt | apply Br.ff | apply Br.no)
        | ((with_reducible apply Br.t); · assumption)
        | ((with_reducible apply Br.f); · assumption)
        | ((with_reducible apply Br.dt); · exact ab_known)
        | ((with_reducible apply Br.df); · exact ab_known)
        | (with_reducible first | refine Br.dec (fun hc => ?_) (fun hc => ?_) | refine Br.mk (fun hc => ?_) (fun hc => ?_))
        | ((with_reducible first | apply NeedRows.mk | apply NeedMap.mk | apply NeedIter.mk); · exact ab_look)
        | ((with_reducible apply NeedLen.mk); · first | assumption | rfl)
        | ((with_reducible apply NeedRow.mk); · exact ab_lookR)
        | ((with_reducible apply DrawG.mk (List.replicate 60 false)); · decide +kernel)
        | (with_reducible first | refine NewP.mk (fun id hid => ?_) | refine NilP.mk (fun e he => ?_))
        | (with_reducible first | exact trivial | exact And.intro rfl rfl)
        | ((with_reducible apply PreP.mk); · exact ab_asked)
        | refine Exists.intro _ (PreP.mk (bytesOf_lst _) ?_)
        | refine PreP.mk (lenD_lst _) ?_
        | (with_reducible first | refine PreP.mk ?_ ?_ | refine BothP.mk ?_ ?_)
        | ((with_reducible apply AncOr.anc); · decide +kernel)
        | with_reducible refine AncOr.go ?_)
      rfl
    | some p =>
      have hR : readM m [102, 97] = .tup [.p (.lst (p.bytes.map byteRow)), i64 0] := by unfold readM; rw [hoff, hfi]; rfl
      have hE : errM m [102, 97] = 0 := by unfold errM; rw [hoff1, hfi]; rfl
      obtain ⟨hrm, hrs, hro, hrq, hrl⟩ := removeM_used hfi hE
      have hlp : ((p.bytes.map byteRow).length : Int) = p.bytes.length := by simp
      have hu4 := hf.2.2.2.1
      have hst4 := hf.1
      have hq4 := hf.2.2.1
      have hl4 := hf.2.2.2.2.2
      have hof4 := hf.2.1
      have hok2 : DsOK (removeM m [102, 97]) := ⟨by omega, by omega, by omega, by omega⟩
      rw [hR]
      repeat' (first
        | ((with_reducible apply Onw.mk); conv => whnf)
        | (with_reducible first | apply Br.tt | apply Br.ff | apply Br.no)
        | ((with_reducible apply Br.t); · assumption)
        | ((with_reducible apply Br.f); · assumption)
        | ((with_reducible apply Br.dt); · exact ab_known)
        | ((with_reducible apply Br.df); · exact ab_known)
        | (with_reducible first | refine Br.dec (fun hc => ?_) (fun hc => ?_) | refine Br.mk (fun hc => ?_) (fun hc => ?_))
        | ((with_reducible first | apply NeedRows.mk | apply NeedMap.mk | apply NeedIter.mk); · exact ab_look)
        | ((with_reducible apply NeedLen.mk); · first | assumption | rfl)
        | ((with_reducible apply NeedRow.mk); · exact ab_lookR)
        | ((with_reducible apply DrawG.mk (List.replicate 60 false)); · decide +kernel)
        | (with_reducible first | refine NewP.mk (fun id hid => ?_) | refine NilP.mk (fun e he => ?_))
        | (with_reducible first | exact trivial | exact And.intro rfl rfl)
        | ((with_reducible apply PreP.mk); · exact ab_asked)
        | refine Exists.intro _ (PreP.mk (bytesOf_lst _) ?_)
        | refine PreP.mk (lenD_lst _) ?_
        | (with_reducible first | refine PreP.mk ?_ ?_ | refine BothP.mk ?_ ?_)
        | ((with_reducible apply AncOr.anc); · decide +kernel)
        | with_reducible refine AncOr.go ?_)
      refine CallOK.go (a21 hd hok [102, 97]) (fun r H2 hr => ?_)
      obtain ⟨rfl, ids2, hd2, hg2⟩ := hr
      rw [hE]
      repeat' (first
        | ((with_reducible apply Onw.mk); conv => whnf)
        | (with_reducible first | apply Br.tt | apply Br.ff | apply Br.no)
        | ((with_reducible apply Br.t); · assumption)
        | ((with_reducible apply Br.f); · assumption)
        | ((with_reducible apply Br.dt); · exact ab_known)
        | ((with_reducible apply Br.df); · exact ab_known)
        | (with_reducible first | refine Br.dec (fun hc => ?_) (fun hc => ?_) | refine Br.mk (fun hc => ?_) (fun hc => ?_))
        | ((with_reducible first | apply NeedRows.mk | apply NeedMap.mk | apply NeedIter.mk); · exact ab_look)
        | ((with_reducible apply NeedLen.mk); · first | assumption | rfl)
        | ((with_reducible apply NeedRow.mk); · exact ab_lookR)
        | ((with_reducible apply DrawG.mk (List.replicate 60 false)); · decide +kernel)
        | (with_reducible first | refine NewP.mk (fun id hid => ?_) | refine NilP.mk (fun e he => ?_))
        | (with_reducible first | exact trivial | exact And.intro rfl rfl)
        | ((with_reducible apply PreP.mk); · exact ab_asked)
        | refine Exists.intro _ (PreP.mk (bytesOf_lst _) ?_)
        | refine PreP.mk (lenD_lst _) ?_
        | (with_reducible first | refine PreP.mk ?_ ?_ | refine BothP.mk ?_ ?_)
        | ((with_reducible apply AncOr.anc); · decide +kernel)
        | with_reducible refine AncOr.go ?_)
      refine CallOK.go (a20 hd2 hok2) (fun r H3 hr => ?_)
      obtain ⟨rfl, rfl⟩ := hr
      have hw7 : IntKind.i64.wrap ((used : Int) - ((p.bytes.map byteRow).length : Int)) = (usedM (removeM m [102, 97]) : Int) := by
        rw [hlp, wrap64 (by omega) (by omega)]; omega
      have hw7' : ((usedM (removeM m [102, 97]) : Nat) : Int) = IntKind.i64.wrap ((used : Int) - ((p.bytes.map byteRow).length : Int)) := hw7.symm
      have hw8 : IntKind.i64.wrap (IntKind.i64.wrap ((q : Int) - used) + ((p.bytes.map byteRow).length : Int)) = ((q - used + p.bytes.length : Nat) : Int) := by
        rw [hlp, wrap64 (n := (q : Int) - used) (by omega) (by omega), wrap64 (by omega) (by omega)]; omega
      repeat' (first
        | ((with_reducible apply Onw.mk); conv => whnf)
        | (with_reducible first | apply Br.tt | apply Br.ff | apply Br.no)
        | ((with_reducible apply Br.t); · assumption)
        | ((with_reducible apply Br.f); · assumption)
        | ((with_reducible apply Br.dt); · exact ab_known)
        | ((with_reducible apply Br.df); · exact ab_known)
        | (with_reducible first | refine Br.dec (fun hc => ?_) (fun hc => ?_) | refine Br.mk (fun hc => ?_) (fun hc => ?_))
        | ((with_reducible first | apply NeedRows.mk | apply NeedMap.mk | apply NeedIter.mk); · exact ab_look)
        | ((with_reducible apply NeedLen.mk); · first | assumption | rfl)
        | ((with_reducible apply NeedRow.mk); · exact ab_lookR)
        | ((with_reducible apply DrawG.mk (List.replicate 60 false)); · decide +kernel)
        | (with_reducible first | refine NewP.mk (fun id hid => ?_) | refine NilP.mk (fun e he => ?_))
        | (with_reducible first | exact trivial | exact And.intro rfl rfl)
        | ((with_reducible apply PreP.mk); · exact ab_asked)
        | refine Exists.intro _ (PreP.mk (bytesOf_lst _) ?_)
        | refine PreP.mk (lenD_lst _) ?_
        | (with_reducible first | refine PreP.mk ?_ ?_ | refine BothP.mk ?_ ?_)
        | ((with_reducible apply AncOr.anc); · decide +kernel)
        | with_reducible refine AncOr.go ?_)
      · rw [hw8]
        refine ⟨by omega, by omega, ?_, by unfold maxS; omega⟩
        show ((1 : Nat) : Int) * ((q - used + p.bytes.length : Nat) : Int) ≤ (maxRoom : Nat)
        unfold maxRoom; omega
      refine NewMade.bytes (q - used + p.bytes.length) hw8 hw8 rfl ?_
      repeat' (first
        | ((with_reducible apply Onw.mk); conv => whnf)
        | (with_reducible first | apply Br.tt | apply Br.ff | apply Br.no)
        | ((with_reducible apply Br.t); · assumption)
        | ((with_reducible apply Br.f); · assumption)
        | ((with_reducible apply Br.dt); · exact ab_known)
        | ((with_reducible apply Br.df); · exact ab_known)
        | (with_reducible first | refine Br.dec (fun hc => ?_) (fun hc => ?_) | refine Br.mk (fun hc => ?_) (fun hc => ?_))
        | ((with_reducible first | apply NeedRows.mk | apply NeedMap.mk | apply NeedIter.mk); · exact ab_look)
        | ((with_reducible apply NeedLen.mk); · first | assumption | rfl)
        | ((with_reducible apply NeedRow.mk); · exact ab_lookR)
        | ((with_reducible apply DrawG.mk (List.replicate 60 false)); · decide +kernel)
        | (with_reducible first | refine NewP.mk (fun id hid => ?_) | refine NilP.mk (fun e he => ?_))
        | (with_reducible first | exact trivial | exact And.intro rfl rfl)
        | ((with_reducible apply PreP.mk); · exact ab_asked)
        | refine Exists.intro _ (PreP.mk (bytesOf_lst _) ?_)
        | refine PreP.mk (lenD_lst _) ?_
        | (with_reducible first | refine PreP.mk ?_ ?_ | refine BothP.mk ?_ ?_)
        | ((with_reducible apply AncOr.anc); · decide +kernel)
        | with_reducible refine AncOr.go ?_)
      refine CallOK.go (a16 hd2 hok2 [103] (List.replicate (q - used + p.bytes.length) 0) (by decide) (by simp; omega)) (fun r H4 hr => ?_)
      obtain ⟨rfl, ids4, hd4, hg4⟩ := hr
      have hE4 : appendR (removeM m [102, 97]) [103] (List.replicate (q - used + p.bytes.length) 0) = 0 := by
        rw [appR_val (by rw [hro, hof4]; simp [offB]) (by decide) (by omega) (by omega) (by omega) (by omega), if_neg]
        simp only [List.length_replicate]
        omega
      rw [hE4]
      repeat' (first
        | ((with_reducible apply Onw.mk); conv => whnf)
        | (with_reducible first | apply Br.tt | apply Br.ff | apply Br.no)
        | ((with_reducible apply Br.t); · assumption)
        | ((with_reducible apply Br.f); · assumption)
        | ((with_reducible apply Br.dt); · exact ab_known)
        | ((with_reducible apply Br.df); · exact ab_known)
        | (with_reducible first | refine Br.dec (fun hc => ?_) (fun hc => ?_) | refine Br.mk (fun hc => ?_) (fun hc => ?_))
        | ((with_reducible first | apply NeedRows.mk | apply NeedMap.mk | apply NeedIter.mk); · exact ab_look)
        | ((with_reducible apply NeedLen.mk); · first | assumption | rfl)
        | ((with_reducible apply NeedRow.mk); · exact ab_lookR)
        | ((with_reducible apply DrawG.mk (List.replicate 60 false)); · decide +kernel)
        | (with_reducible first | refine NewP.mk (fun id hid => ?_) | refine NilP.mk (fun e he => ?_))
        | (with_reducible first | exact trivial | exact And.intro rfl rfl)
        | ((with_reducible apply PreP.mk); · exact ab_asked)
        | refine Exists.intro _ (PreP.mk (bytesOf_lst _) ?_)
        | refine PreP.mk (lenD_lst _) ?_
        | (with_reducible first | refine PreP.mk ?_ ?_ | refine BothP.mk ?_ ?_)
        | ((with_reducible apply AncOr.anc); · decide +kernel)
        | with_reducible refine AncOr.go ?_)
      rfl
end Go.Proofs.Ytanknokhbfijdaa
