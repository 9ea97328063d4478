/- The abstract machine: what walks use, maps, bytes, the way to a row. No conditions. -/
import Derived.Test.YtanknokhbfijdaaKb
import Derived.Shelf.SlIter.Nil
import Derived.Shelf.SortM.Plain
import Derived.Shelf.SortM.SortNone
import Derived.ProofKit
import Derived.WalkKit
import Derived.OpenShut
import Derived.SliceStrings
import Derived.Shelf.SlIterI.Nil
import Derived.Lib.Bytealg
import Derived.Deep.Slices
set_option linter.unusedVariables false
set_option linter.unusedSimpArgs false
/-
  Regions whose order is drawn, with operations at their end whose place is fixed: these may do what is not known ahead.
-/
namespace Go.Ab
variable {Pr : Program} {M M' : Mem} {env env' : List Blk} {H H' : Heap} {w w' : World} {g : G}

/-- All ahead of n are done before n and what is behind it. -/
def cutB (al : List Oper) (n : Nat) : Bool := (List.range n).all fun i => (List.range (al.length - n)).all fun j => anc al i (n + j)
theorem cutB_spec {al : List Oper} {n : Nat} (h : cutB al n = true) {i j : Nat} (hi : i < n) (hj : n ≤ j) (hl : j < al.length) : anc al i j = true := by
  unfold cutB at h
  rw [List.all_eq_true] at h
  have h1 := h i (List.mem_range.2 hi)
  rw [List.all_eq_true] at h1
  have h2 := h1 (j - n) (List.mem_range.2 (by omega))
  rwa [show n + (j - n) = j by omega] at h2

theorem Closed.put {al : List Oper} {S : Nat → Bool} {i : Nat} {o : Oper} (hcl : Closed al S) (ho : al[i]? = some o) (hr : ∀ e ∈ o.after.toList, Region.binds .any e = true → S e.on = true) : Closed al (put1 S i) := by
  intro j o' hj hs e' he' hb
  simp only [put1, Bool.or_eq_true, beq_iff_eq] at hs ⊢
  rcases hs with hs | rfl
  · exact .inl (hcl j o' hj hs e' he' hb)
  · rw [ho] at hj; simp at hj; subst hj
    exact .inl (hr e' he' hb)
theorem before_all {S : Nat → Bool} {n : Nat} (h1 : ∀ i, S i = true → i < n) (h2 : ∀ k, k < n → S k = true) : S = before n := by
  funext k
  rcases Nat.lt_or_ge k n with h | h
  · rw [h2 k h, before_lt h]
  · rw [before_ge h]
    cases hs : S k with
    | false => rfl
    | true => have := h1 k hs; omega
theorem order_cut {al : List Oper} {n : Nat} (hn : n ≤ al.length) (hcut : cutB al n = true) : ∀ (ord : List Nat) (S : Nat → Bool), Order al S ord → Closed al S → (∀ i, S i = true → i < n) →
    ∃ o1 o2, ord = o1 ++ o2 ∧ Order (al.take n) S o1 ∧ Order al (before n) o2
  | [], S, h, hcl, hS => by
    cases h with
    | nil hd =>
      have he := before_all hS (fun k hk => hd k (by omega))
      refine ⟨[], [], rfl, .nil (fun i hi => hd i (by simp at hi; omega)), ?_⟩
      rw [← he]; exact .nil hd
  | i :: ord, S, h, hcl, hS => by
    cases h with
    | cons ho hni hr h =>
      rename_i o
      by_cases hall : ∀ k, k < n → S k = true
      · have he := before_all hS hall
        refine ⟨[], i :: ord, rfl, .nil (fun i hi => hall i (by simp at hi; omega)), ?_⟩
        rw [← he]; exact .cons ho hni hr h
      · obtain ⟨k, hk⟩ := Classical.not_forall.1 hall
        obtain ⟨hk, hkS⟩ := Classical.not_imp.1 hk
        have hcl2 := hcl.put ho hr
        have hil := get_lt ho
        have hin : i < n := by
          rcases Nat.lt_or_ge i n with q | q
          · exact q
          · have h1 := anc_closed hcl2 (cutB_spec hcut hk q hil) (show put1 S i i = true by simp [put1])
            simp only [put1, Bool.or_eq_true, beq_iff_eq] at h1
            rcases h1 with h1 | h1
            · exact absurd h1 hkS
            · omega
        obtain ⟨o1, o2, rfl, h1, h2⟩ := order_cut hn hcut ord (put1 S i) h hcl2 (fun j hj => by
          simp only [put1, Bool.or_eq_true, beq_iff_eq] at hj
          rcases hj with hj | rfl
          · exact hS j hj
          · exact hin)
        exact ⟨i :: o1, o2, rfl, .cons (by rw [List.getElem?_take]; simp [hin, ho]) hni hr h1, h2⟩
theorem fwdB_closed {al : List Oper} (h : fwdB al = true) (n : Nat) : Closed al (before n) := by
  intro j o hj hs e he hb
  unfold fwdB at h
  rw [List.all_eq_true] at h
  have h1 := h j (List.mem_range.2 (get_lt hj))
  rw [hj] at h1
  simp only [List.all_eq_true] at h1
  have h2 := h1 e he
  rw [hb] at h2
  simp at h2
  have hjn : j < n := by simpa [before] using hs
  exact before_lt (by omega)
theorem put1_before (n : Nat) : put1 (before n) n = before (n + 1) := by
  funext k
  simp only [put1, before]
  rcases Nat.lt_trichotomy k n with q | q | q
  · rw [blt_lt q, blt_lt (by omega)]; rfl
  · subst q; rw [blt_lt (show k < k + 1 by omega)]; simp
  · rw [blt_nlt (by omega), blt_nlt (by omega)]
    simp; omega
theorem order_next {al : List Oper} (hf : fwdB al = true) {n : Nat} (hcut : cutB al (n + 1) = true) (hn : n < al.length) {ord : List Nat} (h : Order al (before n) ord) : ∃ o2, ord = n :: o2 ∧ Order al (before (n + 1)) o2 := by
  cases h with
  | nil hd =>
    have := hd n hn
    rw [before_ge (Nat.le_refl _)] at this; cases this
  | cons ho hni hr h =>
    rename_i i is o
    have hil := get_lt ho
    have hcl : Closed al (put1 (before n) i) := (fwdB_closed hf n).put ho hr
    have he : i = n := by
      rcases Nat.lt_trichotomy i n with q | q | q
      · rw [before_lt q] at hni; cases hni
      · exact q
      · have h1 := anc_closed hcl (cutB_spec hcut (show n < n + 1 by omega) (show n + 1 ≤ i by omega) hil) (show put1 (before n) i i = true by simp [put1])
        simp only [put1, Bool.or_eq_true, beq_iff_eq] at h1
        rcases h1 with h1 | h1
        · rw [before_ge (Nat.le_refl _)] at h1; cases h1
        · omega
    subst he
    exact ⟨is, rfl, by rw [← put1_before]; exact h⟩

/-! ### The end: temporaries handed on -/
def asg (o : Oper) : Option (Nat × Nat) :=
  match o.guard, o.op, o.dst with
  | none, .assign (.tmp s), some t => some (t, s)
  | _, _, _ => none
def asgs : List Oper → Option (List (Nat × Nat))
  | [] => some []
  | o :: os => match asg o with
    | none => none
    | some x => match asgs os with
      | none => none
      | some l => some (x :: l)
def distinct : List Nat → Bool
  | [] => true
  | x :: l => !l.contains x && distinct l
def tailB (os : List Oper) : Bool :=
  match asgs os with
  | none => false
  | some l => distinct (l.map (·.1)) && l.all fun x => !(l.map (·.1)).contains x.2
def tailP (nt : Nat) (F : Tm → Prop) : List Oper → Tm → Prop
  | [], T => F T
  | o :: os, T => match asg o with
    | none => False
    | some (t, s) => match get T s with
      | none => False
      | some d => putP nt (some t) d T (tailP nt F os)
def doneP (Pr : Program) (ods : Option (List D)) (op : Op) (H : Heap) (F : D → Heap → Prop) : Prop :=
  match ods with
  | none => False
  | some ds => OpP Pr op ds H F
def cutsB (al : List Oper) (n : Nat) : Nat → Bool
  | 0 => Nat.ble n al.length && (fwdB al && (cutB al n && tailB (al.drop n)))
  | f + 1 => Nat.ble n al.length && (cutB al n && cutsB al (n + 1) f)
def forcedP (Pr : Program) (nt : Nat) (al : List Oper) (K : Tm → Heap → Prop) : Nat → Nat → Tm → Heap → Prop
  | 0, n, T, H => tailP nt (fun T' => K T' H) (al.drop n) T
  | f + 1, n, T, H => match nth al n with
    | none => False
    | some o => guardP al T o.guard
      (fun T => doneP Pr (evs T (opnds o.op)) o.op H fun d H' => putP nt o.dst d T fun T' => forcedP Pr nt al K f (n + 1) T' H')
      (fun T => putP nt o.dst skipD T fun T' => forcedP Pr nt al K f (n + 1) T' H)
def DrawL (Pr : Program) (nt : Nat) (al : List Oper) (T : Tm) (H : Heap) (K : Tm → Heap → Prop) : Prop :=
  ∃ m f labs, (drawB labs (al.take m) && cutsB al m f) = true ∧ drawP Pr nt (al.take m) (fun T1 H1 => forcedP Pr nt al K f m T1 H1) (al.take m) labs 0 [] [] T H
/-- **A region whose order is drawn.** -/
def DrawG (Pr : Program) (nt : Nat) (al : List Oper) (T : Tm) (H : Heap) (K : Tm → Heap → Prop) : Prop := DrawA Pr nt al T H K ∨ DrawL Pr nt al T H K

theorem asg_eq {o : Oper} {t s : Nat} (h : asg o = some (t, s)) : o.guard = none ∧ o.op = .assign (.tmp s) ∧ o.dst = some t := by
  unfold asg at h
  split at h
  · rename_i h1 h2 h3
    simp at h
    exact ⟨h1, by rw [h2, h.2], by rw [h3, h.1]⟩
  · cases h
theorem asgs_get : ∀ {os : List Oper} {l : List (Nat × Nat)}, asgs os = some l → l.length = os.length ∧ ∀ (k : Nat) (o : Oper), os[k]? = some o → ∃ x, asg o = some x ∧ l[k]? = some x
  | [], l, h => by simp [asgs] at h; subst h; exact ⟨rfl, fun k o ho => by simp at ho⟩
  | o :: os, l, h => by
    simp only [asgs] at h
    cases h1 : asg o with
    | none => rw [h1] at h; cases h
    | some x =>
      cases h2 : asgs os with
      | none => rw [h1, h2] at h; cases h
      | some l' =>
        rw [h1, h2] at h
        simp at h; subst h
        obtain ⟨h3, h4⟩ := asgs_get h2
        refine ⟨by simp [h3], fun k o' ho => ?_⟩
        cases k with
        | zero => simp at ho; subst ho; exact ⟨x, h1, rfl⟩
        | succ k => simp at ho; exact h4 k o' ho
theorem distinct_ne : ∀ {l : List Nat}, distinct l = true → ∀ {i j x : Nat}, l[i]? = some x → l[j]? = some x → i = j
  | [], _, i, j, x, h, _ => by simp at h
  | y :: l, hd, i, j, x, h1, h2 => by
    simp only [distinct, Bool.and_eq_true, Bool.not_eq_true'] at hd
    have hno : ∀ {k : Nat}, l[k]? = some y → False := fun {k} hk => by
      have := List.contains_iff_mem.2 (List.mem_of_getElem? hk)
      rw [hd.1] at this; cases this
    cases i with
    | zero =>
      cases j with
      | zero => rfl
      | succ j => simp at h1 h2; subst h1; exact (hno h2).elim
    | succ i =>
      cases j with
      | zero => simp at h1 h2; subst h2; exact (hno h1).elim
      | succ j => simp at h1 h2; rw [distinct_ne hd.2 h1 h2]
section
variable {nt : Nat} {al : List Oper} {T0 : Tm} {labs : List Bool}
theorem tailP_elim {F : Tm → Prop} : ∀ {os : List Oper} {l : List (Nat × Nat)} {T : Tm}, asgs os = some l → (∀ x ∈ l, x.2 ∉ l.map (·.1)) → tailP nt F os T →
    ∃ ws : List (Option Tmp × D), ws.length = os.length ∧ (∀ (k : Nat) (x : Nat × Nat), l[k]? = some x → x.1 < nt ∧ ∃ d, ws[k]? = some (some x.1, d) ∧ get T x.2 = some d) ∧ ∀ i, F (tsel (fun _ => true) i ws T)
  | [], l, T, h, _, hp => by simp [asgs] at h; subst h; exact ⟨[], rfl, fun k x hx => by simp at hx, fun i => hp⟩
  | o :: os, l, T, h, hs, hp => by
    simp only [asgs] at h
    cases h1 : asg o with
    | none => rw [h1] at h; cases h
    | some x =>
      cases h2 : asgs os with
      | none => rw [h1, h2] at h; cases h
      | some l' =>
        rw [h1, h2] at h
        simp at h; subst h
        obtain ⟨t, s⟩ := x
        simp only [tailP, h1] at hp
        cases hg : get T s with
        | none => rw [hg] at hp; exact hp.elim
        | some d =>
          rw [hg] at hp
          obtain ⟨hn, hnt, _⟩ := putP_elim hp
          obtain ⟨ws, q1, q2, q3⟩ := tailP_elim (T := pT (some t) d T) h2 (fun x hx e => hs x (List.mem_cons_of_mem _ hx) (by simp [List.map_cons]; exact .inr (by simpa using e))) hn
          refine ⟨(some t, d) :: ws, by simp [q1], fun k x hx => ?_, fun i => q3 (i + 1)⟩
          cases k with
          | zero => simp at hx; subst hx; exact ⟨hnt t rfl, d, rfl, hg⟩
          | succ k =>
            simp at hx
            obtain ⟨r1, d', r2, r3⟩ := q2 k x hx
            refine ⟨r1, d', by simpa using r2, ?_⟩
            rw [get_pT] at r3
            have hne : ¬ some t = some x.2 := fun e => hs x (List.mem_cons_of_mem _ (List.mem_of_getElem? hx)) (by simp at e; simp [e])
            rw [if_neg hne] at r3
            exact r3
theorem tail_go {all : Array Oper} (hall : ∀ (j : Nat) (o : Oper), al[j]? = some o → all[j]? = some o) {n : Nat} {l : List (Nat × Nat)} (hl : asgs (al.drop n) = some l) (hdd : distinct (l.map (·.1)) = true) (hs : ∀ x ∈ l, x.2 ∉ l.map (·.1))
    {T : Tm} {ws : List (Option Tmp × D)} (hw : ws.length = (al.drop n).length) (hws : ∀ (k : Nat) (x : Nat × Nat), l[k]? = some x → x.1 < nt ∧ ∃ d, ws[k]? = some (some x.1, d) ∧ get T x.2 = some d)
    {b : Frame} {its : List Item} {cs : List Frame} :
    ∀ (ord : List Nat) (S : Nat → Bool) (M : Mem) (env : List Blk) (a : Act) (w : World), Order al S ord → (∀ i, i < n → S i = true) → StI nt g (tsel (fun k => S (n + k)) 0 ws T) H M env a w →
      ∃ M' env' a' w', StI nt g (tsel (fun _ => true) 0 ws T) H M' env' a' w' ∧ Steps Pr (lone (b.at a (.inRegion all ord :: its)) cs w) (lone (b.at a' (.inRegion all [] :: its)) cs w')
  | [], S, M, env, a, w, hord, hS, hst => by
    cases hord with
    | nil hd =>
      refine ⟨M, env, a, w, hst.ext (fun t d hd' => ?_), .refl _ _⟩
      rw [← hd']
      refine tsel_congr (fun k x hk hx => ?_) rfl
      have := get_lt hk
      rw [hd (n + (0 + k)) (by rw [hw, List.length_drop] at this; omega)]
  | i :: ord, S, M, env, a, w, hord, hS, hst => by
    cases hord with
    | cons ho hni hr hord =>
      rename_i o
      have hin : n ≤ i := by
        rcases Nat.lt_or_ge i n with q | q
        · rw [hS i q] at hni; cases hni
        · exact q
      obtain ⟨k, rfl⟩ : ∃ k, i = n + k := ⟨i - n, by omega⟩
      obtain ⟨hlen, hget⟩ := asgs_get hl
      obtain ⟨⟨t, s⟩, hasg, hlk⟩ := hget k o (by rw [List.getElem?_drop]; exact ho)
      obtain ⟨hg, hop, hdst⟩ := asg_eq hasg
      obtain ⟨hnt, d, hwk, hgs⟩ := hws k (t, s) hlk
      have hfst : ∀ (j : Nat) (x : Option Tmp × D), ws[j]? = some x → ∃ y, l[j]? = some y ∧ x.1 = some y.1 := fun j x hx => by
        have hj := get_lt hx
        obtain ⟨y, hy⟩ : ∃ y, l[j]? = some y := ⟨_, List.getElem?_eq_getElem (by rw [hlen, ← hw]; exact hj)⟩
        obtain ⟨_, d', hd', _⟩ := hws j y hy
        rw [hx] at hd'; simp at hd'
        exact ⟨y, hy, by rw [hd']⟩
      have hread : get (tsel (fun k => S (n + k)) 0 ws T) s = some d := by
        rw [tsel_none (fun j x hx he => ?_), hgs]
        obtain ⟨y, hy, hy2⟩ := hfst j x hx
        rw [he] at hy2; simp at hy2
        exact absurd (List.mem_map.2 ⟨y, List.mem_of_getElem? hy, hy2.symm⟩) (hs (t, s) (List.mem_of_getElem? hlk))
      have hev : evs (tsel (fun k => S (n + k)) 0 ws T) (opnds o.op) = some [d] := by
        rw [hop]; simp [opnds, evs, ev, hread]
      have hrd := evs_rd hst hev
      rw [opnds_eq] at hrd
      have hP : OpP Pr o.op [d] H (fun d' H' => d' = d ∧ H' = H) := by rw [hop]; exact ⟨rfl, rfl⟩
      have hwant : Region.wanted o (yielded all a.tmps) = true := guardO_pre hst hall (by rw [hg]; rfl)
      obtain ⟨d', H', v, w', M', env', ⟨e1, e2⟩, hext, hst', hv, hsteps⟩ := hP.mach g M env w a b all (n + k) ord its cs (hall _ _ ho) hwant hst.h hrd
      rw [e2] at hst'
      rw [e1] at hv
      have hst2 : StI nt g (tsel (fun j => put1 S (n + k) (n + j)) 0 ws T) H M' env' (a.put o.dst v) w' := by
        have h0 := hst.move hext hst'
        rw [hdst]
        refine (h0.put hnt hv).ext (fun u du hu => ?_)
        rw [← hu, get_cons]
        by_cases hut : t = u
        · subst hut
          rw [if_pos rfl]
          symm
          refine tsel_last (k := k) hwk (by simp [put1]) (fun j x hj hx he => ?_)
          obtain ⟨y, hy, hy2⟩ := hfst j x hx
          rw [he] at hy2; simp at hy2
          have := distinct_ne hdd (i := k) (j := j) (x := t) (by rw [List.getElem?_map, hlk]; rfl) (by rw [List.getElem?_map, hy]; simp [hy2])
          omega
        · rw [if_neg hut]
          refine tsel_congr (fun j x hj hx => ?_) rfl
          have hjk : ¬ n + (0 + j) = n + k := fun e => by
            have : j = k := by omega
            subst this
            rw [hwk] at hj; simp at hj; subst hj
            simp at hx; exact hut hx
          simp [put1]
          omega
      obtain ⟨M2, env2, a2, w2, h1, h2⟩ := tail_go hall hl hdd hs hw hws ord (put1 S (n + k)) M' env' _ w' hord (fun j hj => by simp [put1, hS j hj]) hst2
      exact ⟨M2, env2, a2, w2, h1, hsteps.trans h2⟩
theorem cutsB_at {n : Nat} : ∀ {f : Nat}, cutsB al n f = true → n ≤ al.length ∧ cutB al n = true ∧ fwdB al = true
  | 0, h => by
    simp only [cutsB, Bool.and_eq_true] at h
    exact ⟨by simpa using h.1, h.2.2.1, h.2.1⟩
  | f + 1, h => by
    simp only [cutsB, Bool.and_eq_true] at h
    exact ⟨by simpa using h.1, h.2.1, (cutsB_at h.2.2).2.2⟩
theorem forced_go {K : Tm → Heap → Prop} {all : Array Oper} (hall : all.toList = al) {b : Frame} {its : List Item} {cs : List Frame} :
    ∀ (f n : Nat) (T : Tm) (H : Heap) (ord : List Nat) (M : Mem) (env : List Blk) (a : Act) (w : World), cutsB al n f = true → forcedP Pr nt al K f n T H → Order al (before n) ord → StI nt g T H M env a w →
      ∃ T' H' M' env' a' w', K T' H' ∧ StI nt g T' H' M' env' a' w' ∧ Steps Pr (lone (b.at a (.inRegion all ord :: its)) cs w) (lone (b.at a' (.inRegion all [] :: its)) cs w')
  | 0, n, T, H, ord, M, env, a, w, hc, hp, hord, hst => by
    simp only [cutsB, Bool.and_eq_true] at hc
    have ht := hc.2.2.2
    unfold tailB at ht
    cases hl : asgs (al.drop n) with
    | none => rw [hl] at ht; cases ht
    | some l =>
      rw [hl] at ht
      simp only [Bool.and_eq_true, List.all_eq_true, Bool.not_eq_true'] at ht
      have hs : ∀ x ∈ l, x.2 ∉ l.map (·.1) := fun x hx e => by
        have := ht.2 x hx
        rw [List.contains_iff_mem.2 e] at this; cases this
      obtain ⟨ws, q1, q2, q3⟩ := tailP_elim hl hs hp
      have hst2 : StI nt g (tsel (fun k => before n (n + k)) 0 ws T) H M env a w := hst.ext (fun t d hd => by
        rw [tsel_none (S := fun k => before n (n + k)) (fun k x hk hx => before_ge (by omega))] at hd; exact hd)
      obtain ⟨M', env', a', w', h1, h2⟩ := tail_go (Pr := Pr) (fun j o h => by rw [← hall] at h; simpa using h) hl ht.1 hs q1 q2 (b := b) (its := its) (cs := cs) ord (before n) M env a w hord (fun i hi => before_lt hi) hst2
      exact ⟨_, H, M', env', a', w', q3 0, h1, h2⟩
  | f + 1, n, T, H, ord, M, env, a, w, hc, hp, hord, hst => by
    simp only [cutsB, Bool.and_eq_true] at hc
    obtain ⟨hc1, hc2, hc3⟩ := hc
    obtain ⟨hn1, hcut, hfwd⟩ := cutsB_at hc3
    simp only [forcedP] at hp
    cases hn : nth al n with
    | none => rw [hn] at hp; exact hp.elim
    | some o =>
      rw [hn] at hp
      simp only [] at hp
      rw [nth_eq] at hn
      obtain ⟨ord, rfl, hord3⟩ := order_next hfwd hcut (get_lt hn) hord
      have ho : all[n]? = some o := by rw [← hall] at hn; simpa using hn
      obtain ⟨b0, T', hg, hT', hb⟩ := guardP_elim hp
      have hw := guardO_ok hst hall hg
      have hst' : StI nt g T' H M env a w := hst.ext (fun t d hd => by rw [← hT']; exact hd)
      rcases hb with ⟨rfl, hy⟩ | ⟨rfl, hno⟩
      · unfold doneP at hy
        cases hev : evs T' (opnds o.op) with
        | none => rw [hev] at hy; exact hy.elim
        | some ds =>
          rw [hev] at hy
          have hrd := evs_rd hst' hev
          rw [opnds_eq] at hrd
          obtain ⟨d, H', v, w', M', env', hput, hext, hstH, hv, hsteps⟩ := hy.mach g M env w a b all n ord its cs ho hw hst'.h hrd
          obtain ⟨hnext, hnt, hpt⟩ := putP_elim hput
          obtain ⟨T2, H2, M2, env2, a2, w2, k1, k2, k3⟩ := forced_go hall f (n + 1) _ _ ord M' env' _ w' hc3 hnext hord3 ((hst'.move hext hstH).putT hpt hv)
          exact ⟨T2, H2, M2, env2, a2, w2, k1, k2, hsteps.trans k3⟩
      · have hsk := step_op_skip (P := Pr) (b := b) (a := a) (k := its) (cs := cs) (w := w) (ops := all) (i := n) (rest := ord) (by simp [ho, hw])
        simp only [ho, Option.bind_some] at hsk
        obtain ⟨hnext, hnt, hpt⟩ := putP_elim hno
        obtain ⟨T2, H2, M2, env2, a2, w2, k1, k2, k3⟩ := forced_go hall f (n + 1) _ _ ord M env _ w hc3 hnext hord3 (hst'.putT hpt RdD_skip)
        exact ⟨T2, H2, M2, env2, a2, w2, k1, k2, .head hsk k3⟩
end

theorem Run.drawL {nt : Nat} {f : FuncId} {m : Nat} {R : D → Heap → Prop} (hm : Pr.follows .mixedOrders = true) {id : Nat} {ops : Array Oper} {k : List CI} {T : Tm} {K : Tm → Heap → Prop} (hRun : ∀ T' H', K T' H' → Run Pr f nt m k T' H' R) (h : DrawL Pr nt ops.toList T H K) :
    Run Pr f nt m (.code (.region id ops true) :: k) T H R := by
  obtain ⟨n, q, labs, hB, h⟩ := h
  rw [Bool.and_eq_true] at hB
  obtain ⟨hB, hcuts⟩ := hB
  obtain ⟨hn, hcut, hfwd⟩ := cutsB_at hcuts
  have hc0 : Cert Pr nt (ops.toList.take n) T H [] H := by
    constructor <;> first | rfl | (intros; simp at *)
  obtain ⟨es, Hn, Tn, hc, hlen, hlab, hK, hT⟩ := draw_cert (LB := labs) (ops.toList.take n) 0 [] [] T H [] (by simpa using h) hc0 rfl (by simp) (fun t => rfl) (fun l el h => by simp at h) (fun q eq h => by simp at h) (fun k e h => by simp at h)
  intro g M env a w b its cs hgm hf hk hcl hst
  obtain ⟨y, its', rfl, h1, h2⟩ := hcl.cons_inv
  rw [h1.code_inv]
  refine .step step_region_draw ?_
  have hord := schedule_order (Pr := Pr) hm hfwd (w.tape w.drawn (.order b.fn id))
  obtain ⟨o1, o2, e12, hord1, hord2⟩ := order_cut hn hcut _ _ hord (fun _ _ _ h => by cases h) (fun _ h => by cases h)
  obtain ⟨c, _, hc1, hc2, hc3⟩ := next_loud es 0 (Nat.zero_le _)
  have hstart : hAt es Hn c = H := by
    rw [← hc.flat (Nat.zero_le c) hc3 hc1]; exact hc.start
  have hst0 : StI nt g (tsel (fun _ => false) 0 (wsOf es) T) (hAt es Hn c) M env a { w with drawn := w.drawn + 1 } := by
    rw [hstart]
    have h3 : StI nt g T H M env a { w with drawn := w.drawn + 1 } := hst.move (Ext.refl _ _) (hst.h.same rfl)
    exact h3.ext (fun t d hd => by rw [tsel_none (fun _ _ _ _ => rfl)] at hd; exact hd)
  obtain ⟨M', env', a', w', h3, h4⟩ := drawn_go (g := g) hc hlen hlab hB (all := ops) (fun j o h => by
      rw [List.getElem?_take] at h
      split at h
      · simpa using h
      · cases h) o2 (b := b) (its := its') (cs := cs) _ _ c M env a _ hord1 (fun _ _ _ h => by cases h) (fun _ h => by cases h) hc1 hc2
    (fun l el h5 h6 => by
      rcases Nat.lt_or_ge l c with h7 | h7
      · have := hc3 l el (Nat.zero_le _) h7 h5; rw [this] at h6; cases h6
      · rw [blt_nlt (by omega)]) hst0
  rw [e12]
  refine .steps h4 ?_
  obtain ⟨T2, H2, M2, env2, a2, w2, k1, k2, k3⟩ := forced_go (Pr := Pr) (g := g) (all := ops) rfl (b := b) (its := its') (cs := cs) q n Tn Hn o2 M' env' a' w' hcuts hK hord2 (h3.ext (fun t d hd => by rw [hT] at hd; exact hd))
  refine .steps k3 (.steps (.one step_region_end) ?_)
  exact hRun _ _ k1 g M2 env2 a2 w2 b its' cs hgm hf hk h2 k2
theorem Run.draw {nt : Nat} {f : FuncId} {m : Nat} {R : D → Heap → Prop} (hm : Pr.follows .mixedOrders = true) {id : Nat} {ops : Array Oper} {k : List CI} {T : Tm} {K : Tm → Heap → Prop} (hRun : ∀ T' H', K T' H' → Run Pr f nt m k T' H' R) (h : DrawG Pr nt ops.toList T H K) :
    Run Pr f nt m (.code (.region id ops true) :: k) T H R := by
  rcases h with h | h
  · exact Run.drawA hm hRun h
  · exact Run.drawL hm hRun h
end Go.Ab
/-
  The walk through a body, as a proposition.
-/
namespace Go.Ab
variable {Pr : Program} {M M' : Mem} {env env' : List Blk} {H H' : Heap} {w w' : World} {g : G}

def resOneP (Pr : Program) (T : Tm) (H : Heap) (r : ResultVar) (F : D → Prop) : Prop :=
  match r with
  | .tmp t => match get T t with
    | some d => F d
    | none => False
  | .cell a t => match get T a with
    | some d => withP (tyOf Pr t) fun ti => opLoadP (fun d _ => F d) (fun _ _ => False) ti d H
    | none => False
def resAllP (Pr : Program) (T : Tm) (H : Heap) : List ResultVar → (List D → Prop) → Prop
  | [], F => F []
  | r :: rs, F => resOneP Pr T H r fun d => resAllP Pr T H rs fun ds => F (d :: ds)

theorem sat_res {o : OV} {F : D → Prop} (hval : ∀ p o', o ≠ .pre p o') (h : o.sat (fun d _ => F d) (fun _ _ => False)) : ∃ d, resD o = some d ∧ F d := by
  cases o with
  | val d H => exact ⟨d, rfl, h⟩
  | call _ _ => exact h.elim
  | pre p o => exact absurd rfl (hval p o)
  | bad => exact h.elim
theorem ovOfRow_nopre {ti : TI} {row : List D} {off : Nat} {p : Prop} {o : OV} : ovOfRow ti row off H ≠ .pre p o := by
  unfold ovOfRow
  split
  · split <;> exact OV.noConfusion
  · split <;> exact OV.noConfusion
theorem ovOfRowP_nopre {ti : TI} {row : List P} {off : Nat} {p : Prop} {o : OV} : ovOfRowP ti row off H ≠ .pre p o := by
  unfold ovOfRowP
  split
  · split <;> exact OV.noConfusion
  · split <;> exact OV.noConfusion
theorem resOneP_elim {T : Tm} {r : ResultVar} {F : D → Prop} (h : resOneP Pr T H r F) : ∃ d, resOne Pr T H r = some d ∧ F d := by
  cases r with
  | tmp t =>
    simp only [resOneP] at h
    simp only [resOne]
    cases hg : get T t with
    | none => rw [hg] at h; exact h.elim
    | some d => rw [hg] at h; exact ⟨d, rfl, h⟩
  | cell a t =>
    simp only [resOneP] at h
    simp only [resOne]
    cases hg : get T a with
    | none => rw [hg] at h; exact h.elim
    | some d =>
      rw [hg] at h
      simp only [] at h ⊢
      cases ht : tyOf Pr t with
      | none => rw [ht] at h; exact h.elim
      | some ti =>
        rw [ht] at h
        simp only [withP] at h ⊢
        unfold opLoadP at h
        split at h
        · obtain ⟨rs, h1, row, h2, h3⟩ := h
          simp only [opLoad, h1, h2]
          exact sat_res (fun _ _ => ovOfRow_nopre) h3
        · obtain ⟨row, rfl, h3⟩ := h
          exact sat_res (fun _ _ => ovOfRowP_nopre) h3
        · exact h.elim
theorem resAllP_elim {T : Tm} : ∀ {rs : List ResultVar} {F : List D → Prop}, resAllP Pr T H rs F → ∃ ds, resAll Pr T H rs = some ds ∧ F ds
  | [], F, h => ⟨[], rfl, h⟩
  | r :: rs, F, h => by
    obtain ⟨d, h1, h2⟩ := resOneP_elim h
    obtain ⟨ds, h3, h4⟩ := resAllP_elim h2
    exact ⟨d :: ds, by simp [resAll, h1, h3], h4⟩

def retP (Pr : Program) (rs : List ResultVar) (R : D → Heap → Prop) (T : Tm) (H : Heap) : Prop := resAllP Pr T H rs fun ds => R (mkRes ds) H

def know (c : Operand) (b : Bool) (T : Tm) : Tm :=
  match c with
  | .tmp t => (t, boolD b) :: T
  | _ => T
def condP (F : Code → Tm → Prop) (c : Operand) (a b : Code) (T : Tm) (d : Option D) : Prop :=
  match d with
  | some (.p (.bool t)) => Br t (F a (know c true T)) (F b (know c false T))
  | _ => False
def exitP (F : List CI → Prop) (k : Option (List CI)) : Prop :=
  match k with
  | some k => F k
  | none => False
def stepP (Pr : Program) (rs : List ResultVar) (nt : Nat) (R : D → Heap → Prop) (St K : List CI → Tm → Heap → Prop) (k : List CI) (T : Tm) (H : Heap) : Prop :=
  match k with
  | [] => retP Pr rs R T H
  | .blk _ :: k => K k T H
  | .lp c :: k => St (.code c :: .lp c :: k) T H
  | .ops _ [] :: k => K k T H
  | .ops al (o :: l) :: k => guardP al T o.guard
      (fun T => doneP Pr (evs T (opnds o.op)) o.op H fun d H' => putP nt o.dst d T fun T' => K (.ops al l :: k) T' H')
      (fun T => putP nt o.dst skipD T fun T' => K (.ops al l :: k) T' H)
  | .code c :: k => match c with
    | .skip => K k T H
    | .seq a b => K (.code a :: .code b :: k) T H
    | .cond c a b => condP (fun x T' => K (.code x :: k) T' H) c a b T (ev T c)
    | .block id c => K (.code c :: .blk id :: k) T H
    | .loop c => St (.code c :: .lp c :: k) T H
    | .exit id => exitP (fun k => K k T H) (exitC id k)
    | .ret => retP Pr rs R T H
    | .region _ ops false => K (.ops ops.toList ops.toList :: k) T H
    | .region _ ops true => DrawG Pr nt ops.toList T H fun T' H' => K k T' H'
    | _ => False

/-- So many steps of a body; a loop is a stop. -/
def execP (Pr : Program) (rs : List ResultVar) (nt : Nat) (R : D → Heap → Prop) (St : List CI → Tm → Heap → Prop) : Nat → List CI → Tm → Heap → Prop
  | 0, k, T, H => St k T H
  | n + 1, k, T, H => stepP Pr rs nt R St (execP Pr rs nt R St n) k T H

section
variable {f : FuncId} {nt m : Nat} {R : D → Heap → Prop}

theorem Run.ext {k : List CI} {T T' : Tm} (h : Run Pr f nt m k T' H R) (hT : ∀ t d, get T' t = some d → get T t = some d) : Run Pr f nt m k T H R :=
  fun g M env a w b its cs h1 h2 h3 h4 h5 => h g M env a w b its cs h1 h2 h3 h4 (h5.ext hT)

theorem stepP_ok (hm : Pr.follows .mixedOrders = true) {fn : Func} (hfn : Pr.funcs[f]? = some fn) {St K : List CI → Tm → Heap → Prop} (hSt : ∀ k T H, St k T H → Run Pr f nt m k T H R) (hK : ∀ k T H, K k T H → Run Pr f nt m k T H R)
    {k : List CI} {T : Tm} (h : stepP Pr fn.results.toList nt R St K k T H) : Run Pr f nt m k T H R := by
  have htab : TabOK Pr [] := TabOK.nil
  have hret : ∀ {k : List CI} {T : Tm}, retP Pr fn.results.toList R T H → (Ab.step Pr [] fn.results.toList nt k T H = retO (resAll Pr T H fn.results.toList) H) → Run Pr f nt m k T H R := by
    intro k T h hs
    obtain ⟨ds, h1, h2⟩ := resAllP_elim h
    refine step_ok htab hfn ?_
    rw [hs, h1]
    exact h2
  cases k with
  | nil => exact hret h rfl
  | cons x k =>
    cases x with
    | blk id => exact step_ok htab hfn (hK _ _ _ h)
    | lp c => exact step_ok htab hfn (hSt _ _ _ h)
    | ops al l =>
      cases l with
      | nil => exact step_ok htab hfn (hK _ _ _ h)
      | cons o l =>
        simp only [stepP] at h
        obtain ⟨b0, T', hg, hT', hb⟩ := guardP_elim h
        intro g M env a w b its cs hgm hf hk hc hst
        obtain ⟨y, its', rfl, h1, h2⟩ := hc.cons_inv
        cases h1 with
        | ops h3 h4 h5 =>
          rename_i all n is
          have hn : n < all.size := by
            rcases Nat.lt_or_ge n all.size with h | h
            · exact h
            · rw [List.drop_eq_nil_of_le (by rw [← h3]; simpa using h)] at h4; cases h4
          have ho : all[n]? = some o := by
            have : al[n]? = some o := by
              have := congrArg (fun l => l[0]?) h4
              simp at this
              exact this.symm
            rw [← h3] at this; simpa using this
          have his : is = n :: List.range' (n + 1) (all.size - (n + 1)) := by
            rw [h5, show all.size - n = (all.size - (n + 1)) + 1 by omega, List.range'_succ]
          have hl : l = al.drop (n + 1) := by
            have := congrArg List.tail h4
            simpa using this
          have hc' : ConcL (.ops al l :: k) (.inRegion all (List.range' (n + 1) (all.size - (n + 1))) :: its') := .cons (.ops h3 hl rfl) h2
          rw [his]
          have hw := guardO_ok hst h3 hg
          have hst' : StI nt g T' H M env a w := hst.ext (fun t d hd => by rw [← hT']; exact hd)
          rcases hb with ⟨rfl, hy⟩ | ⟨rfl, hno⟩
          · unfold doneP at hy
            cases hev : evs T' (opnds o.op) with
            | none => rw [hev] at hy; exact hy.elim
            | some ds =>
              rw [hev] at hy
              have hrd := evs_rd hst' hev
              rw [opnds_eq] at hrd
              obtain ⟨d, H', v, w', M', env', hput, hext, hstH, hv, hsteps⟩ := hy.mach g M env w a b all n (List.range' (n + 1) (all.size - (n + 1))) its' cs ho hw hst'.h hrd
              obtain ⟨hnext, hnt, hpt⟩ := putP_elim hput
              exact .steps hsteps (hK _ _ _ hnext g M' env' _ w' b _ cs hgm hf hk hc' ((hst'.move hext hstH).putT hpt hv))
          · have hsk := step_op_skip (P := Pr) (b := b) (a := a) (k := its') (cs := cs) (w := w) (ops := all) (i := n) (rest := List.range' (n + 1) (all.size - (n + 1))) (by simp [ho, hw])
            simp only [ho, Option.bind_some] at hsk
            obtain ⟨hnext, hnt, hpt⟩ := putP_elim hno
            exact .step hsk (hK _ _ _ hnext g M env _ w b _ cs hgm hf hk hc' (hst'.putT hpt RdD_skip))
    | code c =>
      cases c with
      | skip => exact step_ok htab hfn (hK _ _ _ h)
      | seq x y => exact step_ok htab hfn (hK _ _ _ h)
      | block id c => exact step_ok htab hfn (hK _ _ _ h)
      | loop c => exact step_ok htab hfn (hSt _ _ _ h)
      | cond c x y =>
        simp only [stepP] at h
        unfold condP at h
        split at h
        · rename_i t he
          have hkn : ∀ u, get (know c t T) u = get T u := by
            intro u
            cases c with
            | tmp j => exact get_know he u
            | _ => rfl
          have hrun : Run Pr f nt m (.code (bif t then x else y) :: k) T H R := by
            cases t with
            | true => exact (hK _ _ _ (h.1 rfl)).ext (fun u d hd => by rw [hkn] at hd; exact hd)
            | false => exact (hK _ _ _ (h.2 rfl)).ext (fun u d hd => by rw [hkn] at hd; exact hd)
          refine step_ok htab hfn ?_
          simp only [Ab.step, he, condO]
          exact hrun
        · exact h.elim
      | exit id =>
        simp only [stepP] at h
        refine step_ok htab hfn ?_
        simp only [Ab.step]
        cases he : exitC id k with
        | none => rw [he] at h; exact h.elim
        | some k' => rw [he] at h; exact hK _ _ _ h
      | ret => exact hret h rfl
      | region id ops draw =>
        cases draw with
        | false => exact step_ok htab hfn (hK _ _ _ h)
        | true =>
          simp only [stepP] at h
          exact Run.draw hm (fun T' H' h => hK _ _ _ h) h
      | _ => exact h.elim

/-- **The walk**: so many steps, as asked, are the machine's. -/
theorem execP_ok (hm : Pr.follows .mixedOrders = true) {fn : Func} (hfn : Pr.funcs[f]? = some fn) : ∀ (n : Nat) {k : List CI} {T : Tm} {H : Heap},
    execP Pr fn.results.toList nt R (fun k T H => Run Pr f nt m k T H R) n k T H → Run Pr f nt m k T H R
  | 0, _, _, _, h => h
  | n + 1, _, _, _, h => stepP_ok hm hfn (fun _ _ _ h => h) (fun _ _ _ h => execP_ok hm hfn n h) h
end
end Go.Ab
/-
  What walks use.
-/
namespace Go.Ab
variable {Pr : Program} {H H' : Heap}

/-- Marks what is to be walked on. -/
def Onw (A : Prop) : Prop := A
theorem Onw.mk {A : Prop} (h : A) : Onw A := h
theorem Onw.out {A : Prop} (h : Onw A) : A := h

theorem Br.tt {A B : Prop} (h : Onw A) : Br true A B := ⟨fun _ => h, fun e => (by cases e)⟩
theorem Br.ff {A B : Prop} (h : Onw B) : Br false A B := ⟨fun e => (by cases e), fun _ => h⟩
theorem Br.mk {t : Bool} {A B : Prop} (h : t = true → Onw A) (h' : t = false → Onw B) : Br t A B := ⟨h, h'⟩
theorem Br.t {t : Bool} {A B : Prop} (e : t = true) (h : Onw A) : Br t A B := by subst e; exact Br.tt h
theorem Br.f {t : Bool} {A B : Prop} (e : t = false) (h : Onw B) : Br t A B := by subst e; exact Br.ff h
theorem Br.dec {p : Prop} [Decidable p] {A B : Prop} (h : p → Onw A) (h' : ¬p → Onw B) : Br (decide p) A B := ⟨fun e => h (of_decide_eq_true e), fun e => h' (of_decide_eq_false e)⟩
theorem Br.dt {p : Prop} [Decidable p] {A B : Prop} (e : p) (h : Onw A) : Br (decide p) A B := ⟨fun _ => h, fun e' => absurd e (of_decide_eq_false e')⟩
theorem Br.df {p : Prop} [Decidable p] {A B : Prop} (e : ¬p) (h : Onw B) : Br (decide p) A B := ⟨fun e' => absurd (of_decide_eq_true e') e, fun _ => h⟩
theorem Br.no {t : Bool} {A B : Prop} (h : Br t B A) : Br (!t) A B := by cases t <;> exact ⟨fun e => (by first | (cases e; done) | exact h.2 rfl), fun e => (by first | (cases e; done) | exact h.1 rfl)⟩
theorem Br.of {t t' : Bool} (e : t = t') {A B : Prop} (h : Br t' A B) : Br t A B := e ▸ h
theorem PreP.mk {p A : Prop} (h : p) (k : Onw A) : PreP p A := ⟨h, k⟩
theorem BothP.mk {A B : Prop} (h : Onw A) (k : Onw B) : BothP A B := ⟨h, k⟩
theorem AncOr.anc {b : Bool} {A : Prop} (h : b = true) : AncOr b A := .inl h
theorem AncOr.go {b : Bool} {A : Prop} (h : Onw A) : AncOr b A := .inr h
theorem NeedRows.mk {id : Nat} {rs : List (List D)} {F : List (List D) → Prop} (h : nth H id = some (.rows rs)) (k : Onw (F rs)) : NeedRows H id F := ⟨rs, h, k⟩
theorem NeedMap.mk {id : Nat} {es : List (P × D)} {bs : List Nat} {ck : Nat} {F : List (P × D) → List Nat → Nat → Prop} (h : nth H id = some (.map es bs ck)) (k : Onw (F es bs ck)) : NeedMap H id F := ⟨es, bs, ck, h, k⟩
theorem NeedIter.mk {id mid since last : Nat} {seen : List Nat} {F : Nat → Nat → List Nat → Nat → Prop} (h : nth H id = some (.iter mid since seen last)) (k : Onw (F mid since seen last)) : NeedIter H id F := ⟨mid, since, seen, last, h, k⟩
theorem RoundP.mk {es : List (P × D)} {bs seen : List Nat} {over : Prop} {F : Nat → P → D → Prop} (h : (∀ b ∈ bs, b ∈ seen) → Onw over) (h' : ∀ (i : Nat) (k : P) (d : D) (b : Nat), es[i]? = some (k, d) → bs[i]? = some b → b ∉ seen → Onw (F b k d)) : RoundP es bs seen over F := ⟨h, h'⟩
theorem EntryP.mk {es : List (P × D)} {bs seen : List Nat} {F : P → D → Prop} {i : Nat} {k : P} {d : D} {b : Nat} (h1 : seen.getLast? = some b) (h2 : bs[i]? = some b) (h3 : es[i]? = some (k, d)) (h4 : bs.Nodup) (h : Onw (F k d)) : EntryP es bs seen F := ⟨i, k, d, b, h1, h2, h3, h4, h⟩
theorem NilP.mk {n : Nat} {F : Bool → Prop} (h : ∀ e : Bool, (0 < n → e = false) → Onw (F e)) : NilP n F := h
theorem NeedLen.mk {d : D} {n : Nat} {F : Nat → Prop} (h : lenD d = some n) (k : Onw (F n)) : NeedLen d F := ⟨n, h, k⟩
theorem NeedRow.mk {rs : List (List D)} {r : Nat} {row : List D} {F : List D → Prop} (h : nth rs r = some row) (k : Onw (F row)) : NeedRow rs r F := ⟨row, h, k⟩
theorem EqP.mk {α : Type} {x y : α} {F : α → Prop} (h : x = y) (k : Onw (F y)) : EqP x F := ⟨y, h, k⟩
theorem OptP.mk {r : Option D} {F : Option D → Prop} (h : ∀ d, r = some d → Onw (F (some d))) (h' : r = none → Onw (F none)) : OptP r F := ⟨h, h'⟩
theorem OptP.some {r : Option D} {F : Option D → Prop} {d : D} (e : r = .some d) (h : Onw (F (.some d))) : OptP r F := ⟨fun d' e' => by rw [e] at e'; cases e'; exact h, fun e' => by rw [e] at e'; cases e'⟩
theorem OptP.none {r : Option D} {F : Option D → Prop} (e : r = .none) (h : Onw (F .none)) : OptP r F := ⟨fun d' e' => (by rw [e] at e'; cases e'), fun _ => h⟩
theorem NewP.mk {o : Obj} {F : Nat → Heap → Prop} (h : ∀ id, id = H.length → Onw (F id (H ++ [o]))) : NewP H o F := h
theorem NewSlice.own {k : Nat} {rows : List (List D)} {len : Nat} {cap : Option Nat} {F : D → Heap → Prop} (h : ∀ id, id = H.length → Onw (F (.own id k 0 len cap) (H ++ [.rows rows]))) : NewSlice H k rows len cap F := .inl h
theorem NewSlice.lst {k : Nat} {rows : List (List D)} {len : Nat} {cap : Option Nat} {F : D → Heap → Prop} (ps : List (List P)) (h1 : rows = ps.map (·.map D.p)) (h2 : len = ps.length) (h3 : ∀ r ∈ ps, r.length = k) (h : Onw (F (.p (.lst ps)) H)) : NewSlice H k rows len cap F :=
  .inr ⟨ps, h1, h2, h3, h⟩
theorem NewMade.own {size : Nat} {n c : Int} {zc : List D} {F : D → Heap → Prop} (h : ∀ id, id = H.length → Onw (F (.own id size 0 n.toNat (some c.toNat)) (H ++ [.rows (List.replicate c.toNat zc)]))) : NewMade size n c zc H F := .inl h
theorem NewMade.lst {size : Nat} {n c : Int} {zc : List D} {F : D → Heap → Prop} (pc : List P) (h1 : n = c) (h2 : zc = pc.map D.p) (h : Onw (F (.p (.lst (List.replicate c.toNat pc))) H)) : NewMade size n c zc H F := .inr ⟨h1, pc, h2, h⟩
theorem AppTo.new {id k start len : Nat} {rs xs : List (List D)} {size : Nat} {F : D → Heap → Prop} (h : ∀ id', id' = H.length → Onw (F (.own id' size 0 (len + xs.length) none) (setN H id .gone ++ [.rows ((rs.drop start).take len ++ xs)]))) :
    AppTo H id k start len none rs xs size F := h
theorem AppTo.cap {id k start len c : Nat} {rs xs : List (List D)} {size : Nat} {F : D → Heap → Prop} (h : len + xs.length ≤ c → Onw (F (.own id k start (len + xs.length) (some c)) (setN H id (.rows (rs.take (start + len) ++ xs ++ rs.drop (start + len + xs.length))))))
    (h' : c < len + xs.length → ∀ id', id' = H.length → Onw (F (.own id' size 0 (len + xs.length) none) (H ++ [.rows ((rs.drop start).take len ++ xs)]))) : AppTo H id k start len (some c) rs xs size F := ⟨h, h'⟩
theorem DrawG.mk {nt : Nat} {al : List Oper} {T : Tm} {K : Tm → Heap → Prop} (labs : List Bool) (h : drawB labs al = true) (k : Onw (drawP Pr nt al K al labs 0 [] [] T H)) : DrawG Pr nt al T H K := .inl ⟨labs, h, k⟩
theorem DrawG.mkL {nt : Nat} {al : List Oper} {T : Tm} {K : Tm → Heap → Prop} (N m f : Nat) (labs : List Bool) (h : (Nat.beq al.length N && (drawB labs (al.take m) && cutsB al m f)) = true) (k : Onw (drawP Pr nt (al.take m) (fun T1 H1 => forcedP Pr nt al K f m T1 H1) (al.take m) labs 0 [] [] T H)) : DrawG Pr nt al T H K :=
  .inr ⟨m, f, labs, by rw [Bool.and_eq_true] at h; exact h.2, k⟩

/-- A call whose contract is known. -/
theorem CallOK.go {c : FuncId} {ds : List D} {R K : D → Heap → Prop} (h : CallOK Pr c ds H R) (k : ∀ r H', R r H' → Onw (K r H')) : CallOK Pr c ds H K := h.mono k
theorem DetCall.go {c : FuncId} {ds : List D} {r : D} {H' : Heap} {K : D → Heap → Prop} (h : CallOK Pr c ds H (fun r' H'' => r' = r ∧ H'' = H')) (k : Onw (K r H')) : DetCall Pr c ds H K := ⟨r, H', h, k⟩

theorem Spec.mono {c : FuncId} {ds : List D} {R R' : D → Heap → Prop} (h : Spec Pr c ds H R) (k : ∀ r H', R r H' → R' r H') : Spec Pr c ds H R' :=
  ⟨h.1, fun w M env vs cs h1 h2 => by
    obtain ⟨v, w', fr, ⟨r, H', M', env', q, q'⟩, b⟩ := h.2 w M env vs cs h1 h2
    exact ⟨v, w', fr, ⟨r, H', M', env', k _ _ q, q'⟩, b⟩⟩

/-- The walk of a function. -/
theorem Spec.walk {f : FuncId} {fn : Func} {ds : List D} {R : D → Heap → Prop} (hm : Pr.follows .mixedOrders = true) (hf : Pr.funcs[f]? = some fn) (hn : (fn.name == "runtime.NumGoroutine") = false) (n : Nat)
    (h : Onw (match fn.body with
      | some c => execP Pr fn.results.toList fn.ntmps R (fun k T H' => Run Pr f fn.ntmps H.length k T H' R) n [.code c] (args0 ds 0) H
      | none => False)) : Spec Pr f ds H R := by
  unfold Onw at h
  cases hb : fn.body with
  | none => rw [hb] at h; exact h.elim
  | some c => rw [hb] at h; exact Spec.of_body hf hb hn (execP_ok hm hf n h)

theorem Run.walk {f : FuncId} {fn : Func} {nt m : Nat} {R : D → Heap → Prop} (hm : Pr.follows .mixedOrders = true) (hf : Pr.funcs[f]? = some fn) (n : Nat) {k : List CI} {T : Tm}
    (h : Onw (execP Pr fn.results.toList nt R (fun k T H => Run Pr f nt m k T H R) n k T H)) : Run Pr f nt m k T H R := execP_ok hm hf n h

/-- What is needed no more is forgotten. -/
def keepsB (T T' : Tm) : Prop :=
  match T' with
  | [] => True
  | (t, d) :: r => get T t = some d ∧ keepsB T r
theorem keepsB_get {T : Tm} : ∀ {T' : Tm}, keepsB T T' → ∀ t d, get T' t = some d → get T t = some d
  | [], _, t, d, h => by simp [get] at h
  | (u, e) :: r, hk, t, d, h => by
    rw [get_cons] at h
    by_cases hu : u = t
    · subst hu; simp at h; subst h; exact hk.1
    · rw [if_neg hu] at h; exact keepsB_get hk.2 t d h
theorem Run.keep {f : FuncId} {nt m : Nat} {R : D → Heap → Prop} {k : List CI} {T : Tm} (T' : Tm) (hk : keepsB T T') (h : Run Pr f nt m k T' H R) : Run Pr f nt m k T H R := h.ext (keepsB_get hk)

/-- A loop: an invariant, and what gets less. -/
theorem Run.rounds {α : Type} {f : FuncId} {nt m : Nat} {R : D → Heap → Prop} {k : List CI} (I : α → Tm → Heap → Prop) (less : α → Nat)
    (h : ∀ x T H, I x T H → (∀ y T' H', less y < less x → I y T' H' → Run Pr f nt m k T' H' R) → Run Pr f nt m k T H R) {x : α} {T : Tm} (hx : I x T H) : Run Pr f nt m k T H R := by
  obtain ⟨n, hn⟩ : ∃ n, n = less x := ⟨_, rfl⟩
  induction n using Nat.strongRecOn generalizing x T H with
  | ind n ih => exact h x T H hx (fun y T' H' hl hy => ih (less y) (by omega) hy rfl)
/-- A loop whose temporaries and heap are told. -/
theorem Run.loop {α : Type} {f : FuncId} {nt m : Nat} {R : D → Heap → Prop} {k : List CI} (t : α → Tm) (hp : α → Heap) (I : α → Prop) (less : α → Nat)
    (h : ∀ x, I x → (∀ y, I y → less y < less x → Run Pr f nt m k (t y) (hp y) R) → Run Pr f nt m k (t x) (hp x) R) (x : α) (hx : I x) : Run Pr f nt m k (t x) (hp x) R :=
  Run.rounds (fun x T H => I x ∧ T = t x ∧ H = hp x) less (fun x T H hI ih => by
    obtain ⟨hI, rfl, rfl⟩ := hI
    exact h x hI (fun y hy hl => ih y _ _ hl ⟨hy, rfl, rfl⟩)) (x := x) ⟨hx, rfl, rfl⟩

/-! ### Looking up -/
theorem nth_setN_same {α : Type} {l : List α} {i : Nat} {x y : α} (h : nth l i = some x) : nth (setN l i y) i = some y := by
  rw [nth_eq] at h ⊢; rw [setN_eq, List.getElem?_set_self (get_lt h)]
theorem nth_setN_ne {α : Type} {l : List α} {i j : Nat} {x y : α} (hij : i ≠ j) (h : nth l j = some x) : nth (setN l i y) j = some x := by
  rw [nth_eq] at h ⊢; rw [setN_eq, List.getElem?_set_ne hij]; exact h
theorem nth_app {α : Type} {l l' : List α} {i : Nat} {x : α} (h : nth l i = some x) : nth (l ++ l') i = some x := by
  rw [nth_eq] at h ⊢; rw [List.getElem?_append_left (get_lt h)]; exact h
theorem nth_new {α : Type} {l : List α} {i : Nat} {x : α} (h : i = l.length) : nth (l ++ [x]) i = some x := by
  rw [nth_eq]; subst h; simp
theorem nth_lt {α : Type} {l : List α} {i : Nat} {x : α} (h : nth l i = some x) : i < l.length := by rw [nth_eq] at h; exact get_lt h
theorem setN_length {α : Type} (l : List α) (i : Nat) (x : α) : (setN l i x).length = l.length := by rw [setN_eq]; simp
theorem wrap64 {n : Int} (h1 : -9223372036854775808 ≤ n) (h2 : n < 9223372036854775808) : IntKind.i64.wrap n = n := by
  simp [IntKind.wrap, IntKind.bits, IntKind.signed]
  split <;> omega
theorem slot64 {n m : Int} (h : n = m) (h1 : -9223372036854775808 ≤ n) (h2 : n < 9223372036854775808) : some (D.p (P.int .i64 (IntKind.i64.wrap n))) = some (i64 m) := by
  rw [wrap64 h1 h2, h]; rfl
theorem all_false {α : Type} {l : List α} {f : α → Bool} {i : Nat} {z : α} (hi : i < l.length) (h : f (l.getD i z) = false) : l.all f = false := by
  rw [List.all_eq_false]
  refine ⟨l[i], List.getElem_mem _, ?_⟩
  rw [List.getD_eq_getElem?_getD, List.getElem?_eq_getElem hi] at h
  simpa using h
theorem all_true {α : Type} {l : List α} {f : α → Bool} {z : α} (h : ∀ k, k < l.length → f (l.getD k z) = true) : l.all f = true := by
  rw [List.all_eq_true]
  intro x hx
  obtain ⟨k, hk, rfl⟩ := List.mem_iff_getElem.1 hx
  have := h k hk
  rw [List.getD_eq_getElem?_getD, List.getElem?_eq_getElem hk] at this
  simpa using this
end Go.Ab
/-
  Maps by strings and by numbers.
-/
namespace Go.Ab

theorem keysOk_str {α : Type} (l : List α) (n : α → List UInt8) (v : α → D) : keysOk .str (l.map fun f => (P.str (n f), v f)) := by
  intro e he
  obtain ⟨f, _, rfl⟩ := List.mem_map.1 he
  rfl
theorem isKey_str {a b : List UInt8} {d : D} : isKey (.str a) (.str b, d) = decide (a = b) := by
  simp only [isKey, keyEq]
  by_cases h : a = b <;> simp [h]
theorem lookE_str {α : Type} (l : List α) (n : α → List UInt8) (v : α → D) (name : List UInt8) : lookE (l.map fun f => (P.str (n f), v f)) (.str name) = (l.find? fun f => decide (name = n f)).map v := by
  induction l with
  | nil => rfl
  | cons f l ih =>
    simp only [List.map_cons, lookE, isKey_str, List.find?_cons]
    by_cases h : name = n f <;> simp [h, ih]
theorem updE_str_new {α : Type} (l : List α) (n : α → List UInt8) (v : α → D) (name : List UInt8) (d : D) (h : l.find? (fun f => decide (name = n f)) = none) : updE (l.map fun f => (P.str (n f), v f)) (.str name) d = (l.map fun f => (P.str (n f), v f)) ++ [(.str name, d)] := by
  induction l with
  | nil => rfl
  | cons f l ih =>
    simp only [List.find?_cons] at h
    by_cases hn : name = n f
    · simp [hn] at h
    · simp [hn] at h
      simp only [List.map_cons, updE, isKey_str, hn, decide_false, cond_false, List.cons_append]
      rw [ih (by simpa using h)]
theorem delE_str {α : Type} (l : List α) (n : α → List UInt8) (v : α → D) (name : List UInt8) : delE (l.map fun f => (P.str (n f), v f)) (.str name) = (l.eraseP fun f => decide (name = n f)).map fun f => (P.str (n f), v f) := by
  induction l with
  | nil => rfl
  | cons f l ih =>
    simp only [List.map_cons, delE, isKey_str, List.eraseP_cons]
    by_cases h : name = n f <;> simp [h, ih]
end Go.Ab
/-
  What a call leaves behind the heap is let go.
-/
namespace Go.Ab
variable {Pr : Program} {M M' : Mem} {env : List Blk} {H : Heap} {w w' : World} {g : G}

theorem StH.trim {l : Heap} {env' : List Blk} (h0 : StH g H M env w) (he : Ext M env M' env') (h : StH g (H ++ l) M' env' w') : StH g H M' env w' := by
  obtain ⟨lb, rfl⟩ := he.2
  have hlen := h0.sim.len
  have hold : ∀ {i : Nat} {b : Blk}, env[i]? = some b → (env ++ lb)[i]? = some b := fun hi => prefix_get (List.prefix_append _ _) hi
  have holdH : ∀ {i : Nat} {o : Obj}, H[i]? = some o → (H ++ l)[i]? = some o := fun hi => prefix_get (List.prefix_append _ _) hi
  exact ⟨⟨h.ext.1, h0.ext.2⟩, ⟨hlen, fun i b o h1 h2 => (h0.sim.obj i b o h1 h2).shrink (h.sim.obj i b o (hold h1) (holdH h2)), fun i j bi bj oi oj b h1 h2 h3 h4 => h.sim.dist i j bi bj oi oj b (hold h1) (hold h2) (holdH h3) (holdH h4), h.sim.mem,
      fun i bl o b j h1 h2 => h.sim.disj i bl o b j (hold h1) (holdH h2), fun i bl b h1 => h.sim.lt i bl b (hold h1)⟩,
      ⟨h.frame.hs, h.frame.fr, fun i bl b h1 => h.frame.newb i bl b (hold h1), h.frame.newM, h.frame.so⟩⟩

theorem CallOK.trim {c : FuncId} {ds : List D} {Q : D → Prop} (h : CallOK Pr c ds H (fun r H' => (∃ l, H' = H ++ l) ∧ pureD r = true ∧ Q r)) : CallOK Pr c ds H (fun r H' => H' = H ∧ pureD r = true ∧ Q r) := by
  refine ⟨h.1, fun g M env w vs fr cs hst hrd => ?_⟩
  obtain ⟨r, H', v, w', M', env', ⟨⟨l, rfl⟩, hp, hq⟩, he, hst', hv, hs⟩ := h.2 g M env w vs fr cs hst hrd
  exact ⟨r, H, v, w', M', env, ⟨rfl, hp, hq⟩, ⟨he.1, List.prefix_refl _⟩, hst.trim he hst', hv.pure hp, hs⟩
end Go.Ab
/-
  What a range over a map has told so far.
-/
namespace Go.Ab

/-- The sum over the entries that were told. -/
def sumSeen {α : Type} (g : α → Nat) (seen : List Nat) : List Nat → List α → Nat
  | b :: bs, f :: fs => (if b ∈ seen then g f else 0) + sumSeen g seen bs fs
  | _, _ => 0
theorem sumSeen_nil {α : Type} (g : α → Nat) : ∀ (bs : List Nat) (fs : List α), sumSeen g [] bs fs = 0
  | [], [] => rfl
  | [], _ :: _ => rfl
  | _ :: _, [] => rfl
  | b :: bs, f :: fs => by simp [sumSeen, sumSeen_nil g bs fs]
theorem sumSeen_out {α : Type} (g : α → Nat) {seen : List Nat} {b : Nat} : ∀ (bs : List Nat) (fs : List α), b ∉ bs → sumSeen g (seen ++ [b]) bs fs = sumSeen g seen bs fs
  | [], [], _ => rfl
  | [], _ :: _, _ => rfl
  | _ :: _, [], _ => rfl
  | c :: bs, f :: fs, h => by
    simp only [List.mem_cons, not_or] at h
    have hc : (c ∈ seen ++ [b]) = (c ∈ seen) := by simp [Ne.symm h.1]
    simp only [sumSeen, hc, sumSeen_out g bs fs h.2]
theorem sumSeen_add {α : Type} (g : α → Nat) {seen : List Nat} {b : Nat} : ∀ {bs : List Nat} {fs : List α} {i : Nat} {f : α}, bs.Nodup → bs[i]? = some b → fs[i]? = some f → b ∉ seen → sumSeen g (seen ++ [b]) bs fs = sumSeen g seen bs fs + g f
  | [], _, i, f, _, h, _, _ => by simp at h
  | _ :: _, [], i, f, _, _, h, _ => by simp at h
  | c :: bs, e :: fs, 0, f, hn, h1, h2, hs => by
    simp at h1 h2; subst h1; subst h2
    have hb : c ∉ bs := (List.nodup_cons.1 hn).1
    simp only [sumSeen, sumSeen_out g bs fs hb]
    simp [hs]; omega
  | c :: bs, e :: fs, i + 1, f, hn, h1, h2, hs => by
    have hn' := List.nodup_cons.1 hn
    have hcb : c ≠ b := fun e => hn'.1 (by rw [e]; exact List.mem_of_getElem? (by simpa using h1))
    have ih := sumSeen_add g (seen := seen) hn'.2 (by simpa using h1) (by simpa using h2) hs
    have hc : (c ∈ seen ++ [b]) = (c ∈ seen) := by simp [hcb]
    simp only [sumSeen, hc, ih]; omega
theorem sumSeen_all {α : Type} (g : α → Nat) {seen : List Nat} : ∀ {bs : List Nat} {fs : List α}, bs.length = fs.length → (∀ b ∈ bs, b ∈ seen) → sumSeen g seen bs fs = (fs.map g).sum
  | [], [], _, _ => rfl
  | [], _ :: _, h, _ => by simp at h
  | _ :: _, [], h, _ => by simp at h
  | b :: bs, f :: fs, h, ha => by
    have ih := sumSeen_all g (seen := seen) (bs := bs) (fs := fs) (by simpa using h) (fun c hc => ha c (List.mem_cons_of_mem _ hc))
    simp [sumSeen, ih, ha b List.mem_cons_self]
theorem sumSeen_le {α : Type} (g : α → Nat) (seen : List Nat) : ∀ (bs : List Nat) (fs : List α), sumSeen g seen bs fs ≤ (fs.map g).sum
  | [], [] => by simp [sumSeen]
  | [], _ :: _ => by simp [sumSeen]
  | _ :: _, [] => by simp [sumSeen]
  | b :: bs, f :: fs => by
    have := sumSeen_le g seen bs fs
    simp only [sumSeen, List.map_cons, List.sum_cons]
    split <;> omega

theorem setN_last {α : Type} {l : List α} {x y : α} {i : Nat} (h : i = l.length) : setN (l ++ [x]) i y = l ++ [y] := by
  subst h; rw [setN_eq]; simp
theorem setN_self {α : Type} {l : List α} {x : α} {i : Nat} (h : nth l i = some x) : setN l i x = l := by
  induction l generalizing i with
  | nil => rfl
  | cons y l ih => cases i with
    | zero => simp [nth] at h; subst h; rfl
    | succ i => simp only [setN]; rw [ih h]
theorem setN_app {α : Type} {l l' : List α} {y : α} {i : Nat} (h : i < l.length) : setN (l ++ l') i y = setN l i y ++ l' := by
  rw [setN_eq, setN_eq, List.set_append_left _ _ h]
theorem setN_setN {α : Type} {l : List α} {x y : α} {i : Nat} : setN (setN l i x) i y = setN l i y := by simp [setN_eq]
/-- How many are left. -/
def leftN (bs seen : List Nat) : Nat := (bs.filter fun b => !(seen.contains b)).length
theorem leftN_less {bs seen : List Nat} {b : Nat} (hb : b ∈ bs) (hs : b ∉ seen) : leftN bs (seen ++ [b]) < leftN bs seen := by
  unfold leftN
  refine filter_less (i := b) (fun j hj => ?_) hb (by simpa using hs) (by simp)
  simp at hj ⊢
  exact hj.1
end Go.Ab
/-
  Arguments and results told otherwise.
-/
namespace Go.Ab
variable {Pr : Program} {M M' : Mem} {env : List Blk} {H : Heap} {w w' : World} {g : G}

theorem CallOK.args {c : FuncId} {ds ds' : List D} {R : D → Heap → Prop} (h : CallOK Pr c ds H R) (ha : ∀ (M : Mem) (env : List Blk) (vs : List Value), RdL M env ds' vs → RdL M env ds vs) : CallOK Pr c ds' H R :=
  ⟨h.1, fun g M env w vs fr cs hst hr => h.2 g M env w vs fr cs hst (ha M env vs hr)⟩
theorem Spec.args {c : FuncId} {ds ds' : List D} {R : D → Heap → Prop} (h : Spec Pr c ds H R) (ha : ∀ (M : Mem) (env : List Blk) (vs : List Value), RdL M env ds' vs → RdL M env ds vs) : Spec Pr c ds' H R :=
  ⟨h.1, fun w M env vs cs hs hr => h.2 w M env vs cs hs (ha M env vs hr)⟩
theorem RdD.nil_lst {v : Value} (h : RdD M env (.p .nil) v) : RdD M env (.p (.lst [])) v := by
  cases h with
  | p h => cases h with
    | nil => exact .p .lstNil

/-- What a call made and hands back is never written again. -/
theorem CallOK.freeze {c : FuncId} {ds : List D} {Q : List (List P) → Prop} (h : CallOK Pr c ds H (fun r H' => ∃ ps k cap, H' = H ++ [.rows (ps.map (·.map D.p))] ∧ r = .own H.length k 0 ps.length cap ∧ (∀ r ∈ ps, r.length = k) ∧ Q ps)) :
    CallOK Pr c ds H (fun r H' => H' = H ∧ ∃ ps, r = .p (.lst ps) ∧ Q ps) := by
  refine ⟨h.1, fun g M env w vs fr cs hst hrd => ?_⟩
  obtain ⟨r, H', v, w', M', env', ⟨ps, k, cap, rfl, rfl, hk, hq⟩, he, hst', hv, hs⟩ := h.2 g M env w vs fr cs hst hrd
  obtain ⟨M'', h1, h2, h3⟩ := hst.freeze he hst' hk hv
  exact ⟨_, H, v, w', M'', env, ⟨rfl, ps, rfl, hq⟩, h1, h2, h3, hs⟩
theorem RdD.own_empty {env' : List Blk} {id k st : Nat} {cap : Option Nat} {v : Value} (h : RdD M env (.own id k st 0 cap) v) : RdD M env' (.p (.lst [])) v := by
  generalize hn : 0 = n at h
  cases h with
  | ownNil => exact .p .lstNil
  | own h1 h2 h3 h4 h5 h6 h7 =>
    subst hn
    exact .p (.lst (rows := []) (k := 0) (c := fun _ _ => default) (fun r hr => by simp at hr) (Nat.zero_le _) (fun i j row p hi _ => by simp at hi) (fun i j row p hi _ => by simp at hi))

/-- What a call made and hands back is never written again; or it is empty. -/
theorem CallOK.freeze' {c : FuncId} {ds : List D} {Q : List (List P) → Prop} (h : CallOK Pr c ds H (fun r H' => (∃ ps k cap, H' = H ++ [.rows (ps.map (·.map D.p))] ∧ r = .own H.length k 0 ps.length cap ∧ (∀ r ∈ ps, r.length = k) ∧ Q ps) ∨ (H' = H ∧ Q [] ∧ ((∃ id k st cap, r = .own id k st 0 cap) ∨ r = .p .nil)))) :
    CallOK Pr c ds H (fun r H' => H' = H ∧ ∃ ps, r = .p (.lst ps) ∧ Q ps) := by
  refine ⟨h.1, fun g M env w vs fr cs hst hrd => ?_⟩
  obtain ⟨r, H', v, w', M', env', hor, he, hst', hv, hs⟩ := h.2 g M env w vs fr cs hst hrd
  rcases hor with ⟨ps, k, cap, rfl, rfl, hk, hq⟩ | ⟨rfl, hq, ⟨id, k, st, cap, rfl⟩ | rfl⟩
  · obtain ⟨M'', h1, h2, h3⟩ := hst.freeze he hst' hk hv
    exact ⟨_, H, v, w', M'', env, ⟨rfl, ps, rfl, hq⟩, h1, h2, h3, hs⟩
  · exact ⟨_, H', v, w', M', env', ⟨rfl, [], rfl, hq⟩, he, hst', hv.own_empty, hs⟩
  · exact ⟨_, H', v, w', M', env', ⟨rfl, [], rfl, hq⟩, he, hst', hv.nil_lst, hs⟩
end Go.Ab
/-
  Freezing in place.
-/
namespace Go.Ab
variable {Pr : Program} {M M' : Mem} {env : List Blk} {H : Heap} {w w' : World} {g : G}

theorem StH.freezeAt {id k st len : Nat} {cap : Option Nat} {rs : List (List D)} {ps : List (List P)} {v : Value} (h : StH g H M env w) (hH : nth H id = some (.rows rs)) (hv : RdD M env (.own id k st len cap) v)
    (hps : (rs.drop st).take len = ps.map (·.map D.p)) (hl : len = ps.length) (hk : ∀ r ∈ ps, r.length = k) :
    ∃ M'', Ext M env M'' env ∧ StH g (H.set id .gone) M'' env w ∧ RdD M'' env (.p (.lst ps)) v := by
  rw [nth_eq] at hH
  have hkill := h.kill id
  generalize hn : len = n at hv
  cases hv with
  | ownNil h1 h2 h3 h4 =>
    have : ps = [] := List.length_eq_zero_iff.1 (by omega)
    subst this
    exact ⟨M, Ext.refl _ _, hkill, .p .lstNil⟩
  | own h1 h2 h3 h4 h5 h6 h7 =>
    rename_i blk b o c
    subst h3
    have hobj := h.sim.obj _ _ _ h1 hH
    simp only [ObjR, h2] at hobj
    obtain ⟨cs, e, fro, c1, c2, c3, c4, c5, c6⟩ := hobj
    have hpM : ∀ j, M b j = none := fun j => h.sim.disj _ _ _ b j h1 hH rfl h2
    let M'' : Mem := fun b' i => if b' = b then cs[i]? else M b' i
    have hle : MemLe M M'' := fun b' i x hx => by
      by_cases hbe : b' = b
      · subst hbe; rw [hpM i] at hx; cases hx
      · simp [M'', hbe, hx]
    have hext : Ext M env M'' env := ⟨hle, List.prefix_refl _⟩
    have hidl : id < H.length := get_lt hH
    refine ⟨M'', hext, ⟨h.ext.trans hext, ⟨hkill.sim.len, fun i bl ob q1 q2 => (hkill.sim.obj i bl ob q1 q2).mono hext (fun _ _ _ => rfl), hkill.sim.dist, ?_, ?_, hkill.sim.lt⟩, ⟨h.frame.hs, h.frame.fr, h.frame.newb, ?_, h.frame.so⟩⟩, ?_⟩
    · intro b' i x hx
      by_cases hbe : b' = b
      · subst hbe; simp only [M'', if_true] at hx; rw [cell_mk c1]; exact hx
      · simp only [M'', hbe, if_false] at hx; exact h.sim.mem b' i x hx
    · intro i bl ob b' j q1 q2 q3 q4
      by_cases hbe : b' = b
      · subst hbe
        by_cases hi : id = i
        · subst hi
          rw [List.getElem?_set_self hidl] at q2
          simp at q2; subst q2; cases q3
        · rw [List.getElem?_set_ne hi] at q2
          exact absurd (h.sim.dist i id bl blk ob _ b' q1 h1 q2 hH q3 rfl q4 h2) (fun e => hi e.symm)
      · simp only [M'', hbe, if_false]; exact hkill.sim.disj i bl ob b' j q1 q2 q3 q4
    · intro b' i x hx
      by_cases hbe : b' = b
      · subst hbe
        rcases Nat.lt_or_ge id g.env0.length with hlt | hge
        · have := prefix_get h.ext.2 (List.getElem?_eq_getElem hlt)
          rw [h1] at this; simp at this
          exact .inr (.inr ⟨blk, this ▸ List.getElem_mem hlt, h2⟩)
        · rcases h.frame.newb _ _ _ h1 hge h2 with q | q
          · exact .inr (.inl q)
          · exact .inr (.inr q)
      · simp only [M'', hbe, if_false] at hx; exact h.frame.newM b' i x hx
    · have hcell : ∀ (i j : Nat) (row : List P) (p : P), ps[i]? = some row → row[j]? = some p → ∃ x, cs[blk.o + (st + i) * blk.k + j]? = some x ∧ RdP M'' p x := by
        intro i j row p hi hj
        have hr : rs[st + i]? = some (row.map D.p) := by
          have h8 : ((rs.drop st).take len)[i]? = some (row.map D.p) := by rw [hps]; simp [hi]
          rw [List.getElem?_take] at h8
          split at h8
          · simpa [List.getElem?_drop] using h8
          · cases h8
        obtain ⟨x, hx, hrd⟩ := c5 (st + i) j (row.map D.p) (.p p) hr (by simp [hj])
        cases hrd with
        | p hrd => exact ⟨x, hx, hrd.mono hle⟩
      have hnl : n = ps.length := by omega
      subst hnl
      refine .p (.lst (k := blk.k) (c := fun i j => (cs[blk.o + (st + i) * blk.k + j]?).getD default) hk h5 (fun i j row p hi hj => ?_) (fun i j row p hi hj => ?_))
      · obtain ⟨x, hx, hr⟩ := hcell i j row p hi hj
        have hpos : c ≠ 0 := by have := get_lt hi; omega
        rw [h4 hpos]
        have e1 : blk.o + st * blk.k + i * blk.k + j = blk.o + (st + i) * blk.k + j := by rw [Nat.add_mul]; omega
        simp only [M'', if_true, e1, hx, Option.getD_some]
      · obtain ⟨x, hx, hr⟩ := hcell i j row p hi hj
        simp only [hx, Option.getD_some]; exact hr

/-- What a call made and hands back is never written again; what else it made is let go. -/
theorem CallOK.frozen {c : FuncId} {ds : List D} {Q : List (List P) → Prop} (h : CallOK Pr c ds H (fun r H' => (∃ l, H' = H ++ l) ∧ ∃ ps, Q ps ∧
      ((∃ id k st cap rs, H.length ≤ id ∧ r = .own id k st ps.length cap ∧ nth H' id = some (.rows rs) ∧ (rs.drop st).take ps.length = ps.map (·.map D.p) ∧ ∀ r ∈ ps, r.length = k) ∨
       (ps = [] ∧ ((∃ id k st cap, r = .own id k st 0 cap) ∨ r = .p .nil)) ∨ r = .p (.lst ps)))) :
    CallOK Pr c ds H (fun r H' => H' = H ∧ ∃ ps, r = .p (.lst ps) ∧ Q ps) := by
  refine ⟨h.1, fun g M env w vs fr cs hst hrd => ?_⟩
  obtain ⟨r, H', v, w', M', env', ⟨⟨l, rfl⟩, ps, hq, hor⟩, he, hst', hv, hs⟩ := h.2 g M env w vs fr cs hst hrd
  have hx : ∀ {M : Mem} {e e' : List Blk} {x : P}, RdD M e (.p x) v → RdD M e' (.p x) v := fun h => by cases h with | p h => exact .p h
  rcases hor with ⟨id, k, st, cap, rs, hid, rfl, hn, hps, hk⟩ | ⟨rfl, ⟨id, k, st, cap, rfl⟩ | rfl⟩ | rfl
  · obtain ⟨M'', h1, h2, h3⟩ := hst'.freezeAt hn hv hps rfl hk
    rw [List.set_append_right _ _ hid] at h2
    exact ⟨_, H, v, w', M'', env, ⟨rfl, ps, rfl, hq⟩, ⟨he.1.trans h1.1, List.prefix_refl _⟩, hst.trim (he.trans h1) h2, hx h3, hs⟩
  · exact ⟨_, H, v, w', M', env, ⟨rfl, [], rfl, hq⟩, ⟨he.1, List.prefix_refl _⟩, hst.trim he hst', hv.own_empty, hs⟩
  · exact ⟨_, H, v, w', M', env, ⟨rfl, [], rfl, hq⟩, ⟨he.1, List.prefix_refl _⟩, hst.trim he hst', hx hv.nil_lst, hs⟩
  · exact ⟨_, H, v, w', M', env, ⟨rfl, ps, rfl, hq⟩, ⟨he.1, List.prefix_refl _⟩, hst.trim he hst', hx hv, hs⟩
end Go.Ab
/-
  Contracts of the kit's own kind, as calls.
-/
namespace Go.Ab
variable {Pr : Program} {M M' : Mem} {env : List Blk} {H : Heap} {w w' : World} {g : G}

/-- The world grew; what was there stands. -/
theorem StH.older (h : StH g H M env w) (so : SoR w w') (hs : w.heap.size ≤ w'.heap.size) (hold : ∀ b, b < w.heap.size → w'.heap[b]? = w.heap[b]?) : StH g H M env w' := by
  have h0 := h.sim
  refine ⟨h.ext, ⟨h0.len, fun i blk o h1 h2 => (h0.obj i blk o h1 h2).mono (Ext.refl _ _) (fun _ b hb => hold b (h0.lt i blk b h1 hb)), h0.dist, fun b i x hx => ?_, h0.disj, fun i blk b h1 h2 => Nat.lt_of_lt_of_le (h0.lt i blk b h1 h2) hs⟩,
    ⟨Nat.le_trans h.frame.hs hs, fun b h1 h2 => by rw [hold b (Nat.lt_of_lt_of_le h1 h.frame.hs)]; exact h.frame.fr b h1 h2, h.frame.newb, h.frame.newM, h.frame.so.trans so⟩⟩
  have := h0.mem b i x hx
  rw [cell_same (hold b (cell_lt this))]; exact this

/-- The same, with a block's cells that are never written again. -/
theorem StH.result (h : StH g H M env w) (so : SoR w w') (hs : w.heap.size ≤ w'.heap.size) (hold : ∀ b, b < w.heap.size → w'.heap[b]? = w.heap[b]?) {b : Nat} {c : Array Value} {e : TypeId} {fro : Nat × Nat}
    (hb : w'.heap[b]? = some (.cells c e fro)) (hge : w.heap.size ≤ b) : ∃ M'', Ext M env M'' env ∧ StH g H M'' env w' ∧ ∀ i x, c[i]? = some x → M'' b i = some x := by
  have h1 := h.older so hs hold
  have hnone : ∀ j, M b j = none := fun j => h.sim.mem_none b j hge
  let M'' : Mem := fun b' i => if b' = b then c[i]? else M b' i
  have hle : MemLe M M'' := fun b' i x hx => by
    by_cases hbe : b' = b
    · subst hbe; rw [hnone i] at hx; cases hx
    · simp [M'', hbe, hx]
  have hext : Ext M env M'' env := ⟨hle, List.prefix_refl _⟩
  refine ⟨M'', hext, ⟨h.ext.trans hext, ⟨h1.sim.len, fun i bl ob q1 q2 => (h1.sim.obj i bl ob q1 q2).mono hext (fun _ _ _ => rfl), h1.sim.dist, fun b' i x hx => ?_, fun i bl ob b' j q1 q2 q3 q4 => ?_, h1.sim.lt⟩,
    ⟨h1.frame.hs, h1.frame.fr, h1.frame.newb, fun b' i x hx => ?_, h1.frame.so⟩⟩, fun i x hx => by simp [M'', hx]⟩
  · by_cases hbe : b' = b
    · subst hbe; simp only [M'', if_true] at hx; rw [cell_mk hb]; exact hx
    · simp only [M'', hbe, if_false] at hx; exact h1.sim.mem b' i x hx
  · by_cases hbe : b' = b
    · subst hbe
      have := h.sim.lt i bl b' q1 q4
      omega
    · simp only [M'', hbe, if_false]; exact h1.sim.disj i bl ob b' j q1 q2 q3 q4
  · by_cases hbe : b' = b
    · subst hbe
      exact .inr (.inl (Nat.le_trans h.frame.hs hge))
    · simp only [M'', hbe, if_false] at hx; exact h1.frame.newM b' i x hx

/-- A contract of the kit's kind, whose result is told. -/
theorem CallOK.of_calls {c : FuncId} {ds : List D} {R : D → Heap → Prop} (hen : Enters Pr c)
    (h : ∀ (g : G) (M : Mem) (env : List Blk) (w : World) (vs : List Value), StH g H M env w → RdL M env ds vs →
      Calls Pr c vs.toArray w (fun e w' => ∃ v r H' M' env', e = .returned v ∧ R r H' ∧ Ext M env M' env' ∧ StH g H' M' env' w' ∧ RdD M' env' r v)) : CallOK Pr c ds H R := by
  refine ⟨hen, fun g M env w vs fr cs hst hr => ?_⟩
  obtain ⟨e, w', fr', ⟨v, r, H', M', env', rfl, hR, he, hst', hv⟩, hcome, hfn, hleave⟩ := h g M env w vs hst hr (fr :: cs)
  have hback : Go.step Pr (lone fr' (fr :: cs) w') = .next (lone (fr.finish v) cs w') := step_leave_returned hleave
  exact ⟨r, H', v, w', M', env', hR, he, hst', hv, Steps.trans hcome (.one hback)⟩
end Go.Ab
/-
  A map by strings, as the kit's contracts want it.
-/
namespace Go.Ab
open Go.Proofs (encStr)
variable {Pr : Program} {M M' : Mem} {env : List Blk} {H : Heap} {w w' : World} {g : G}

theorem encStr_of {s : ByteArray} {l : List UInt8} (h : s.data.toList = l) : Value.string s = encStr l := by
  subst h; simp [encStr]
abbrev anyR : Value → Option (DataW Unit × List MemPlace) := fun _ => some (.lit (.bool true), [])

theorem SimH.ownsStr {α : Type} {k : TypeId} (hk : Pr.underlying k = some .string) (K : Maps.Keyed Pr k) (h : SimH M env H w) {mid ck : Nat} {l : List α} {n : α → List UInt8} {v : α → D} {bs : List Nat}
    (hmap : nth H mid = some (.map (l.map fun f => (P.str (n f), v f)) bs ck)) (hnd : (l.map n).Nodup) (hlen : ∀ f ∈ l, (n f).length ≤ maxLen) (hbs : bs.Nodup) (hlt : ∀ b ∈ bs, b < ck) (hsz : l.length ≤ maxLen)
    {x : Value} (hx : RdD M env (.mp mid) x) : ∃ b D0, x = .map (some b) ∧ w.ownsMap Pr k anyR b l.length D0 ∧ (strKeys D0).Perm (l.map n) ∧ Maps.size D0 = l.length := by
  cases hx with
  | mp h1 h2 =>
  rename_i blk b
  rw [nth_eq] at hmap
  obtain ⟨b', hb', ents, hw, hl, hbe, hen⟩ := h.obj _ _ _ h1 hmap
  rw [h2] at hb'; cases hb'
  have hsize : ents.size = l.length := by rw [← hl]; simp
  have hkey : ∀ (i : Nat) (m : MapEntry), ents[i]? = some m → ∃ f, l[i]? = some f ∧ m.key = encStr (n f) := by
    intro i m hm
    have hil : i < ents.size := by
      rcases Nat.lt_or_ge i ents.size with h | h
      · exact h
      · rw [Array.getElem?_eq_none h] at hm; cases hm
    have hil2 : i < l.length := by omega
    have he : (l.map fun f => (P.str (n f), v f))[i]? = some (.str (n l[i]), v l[i]) := by simp [hil2]
    have := (hen i _ _ m he hm).1
    refine ⟨l[i], by simp [hil2], ?_⟩
    generalize m.key = q at this
    cases this with
    | str hs => exact encStr_of hs
  have hkeys : ents.toList.map (·.key) = l.map fun f => encStr (n f) := by
    refine List.ext_getElem? fun i => ?_
    simp only [List.getElem?_map, Array.getElem?_toList]
    cases hm : ents[i]? with
    | none =>
      have : l[i]? = none := by
        refine List.getElem?_eq_none ?_
        rw [Array.getElem?_eq_none_iff] at hm; omega
      simp [this]
    | some m =>
      obtain ⟨f, hf, hkf⟩ := hkey i m hm
      simp [hf, hkf]
  have hinj : (l.map fun f => encStr (n f)).Nodup := by
    have e : (l.map fun f => encStr (n f)) = (l.map n).map encStr := by simp
    rw [e]
    refine List.pairwise_map.2 (hnd.imp fun {a b} hab hh => hab ?_)
    simpa [encStr] using hh
  have hread : ∀ (m : MapEntry), m ∈ ents.toList → ∃ f ∈ l, WideElems.rd Pr k anyR m = some (.string (n f), .lit (.bool true)) := by
    intro m hm
    obtain ⟨i, hi⟩ := List.getElem?_of_mem hm
    obtain ⟨f, hf, hkf⟩ := hkey i m (by simpa using hi)
    refine ⟨f, List.mem_of_getElem? hf, ?_⟩
    simp only [WideElems.rd, hkf, keyOf, hk, mapKey, encStr]
    have := hlen f (List.mem_of_getElem? hf)
    simp [ByteArray.size, this]
  have hfit : WideElems.Fit Pr k anyR ents ck := by
    refine ⟨by omega, ⟨fun m hm => ?_, by rw [← hbe]; exact hbs, by rw [hkeys]; exact hinj⟩, fun m hm => ?_⟩
    · exact hlt _ (by rw [hbe]; exact List.mem_map.2 ⟨m, hm, rfl⟩)
    · obtain ⟨f, _, hf⟩ := hread m hm; exact ⟨_, hf⟩
  have hown : w.ownsMap Pr k anyR b l.length (.map ((ents.toList.map (WideElems.rg Pr k anyR)).foldr DataW.insert [])) := ⟨ents, ck, hw, hfit, by omega, rfl⟩
  refine ⟨b, _, rfl, hown, ?_, ?_⟩
  all_goals
    have hp : (l.map n).Perm (strKeys (.map ((ents.toList.map (WideElems.rg Pr k anyR)).foldr DataW.insert []))) := by
      obtain ⟨es, hD, hpw, _⟩ := hown.entries K
      obtain rfl := (by simpa using hD : _ = es)
      refine perm_strKeys hpw (fun p hp => ?_) hnd (fun x => ?_)
      · obtain ⟨m, hm, rfl⟩ := List.mem_map.1 (mem_sorted.1 hp)
        obtain ⟨f, _, hf⟩ := hread m hm
        exact ⟨n f, by rw [WideElems.rg, hf]; rfl⟩
      · rw [Maps.has_eq, List.any_eq_true]
        constructor
        · intro hx
          obtain ⟨f, hf, rfl⟩ := List.mem_map.1 hx
          obtain ⟨i, hi⟩ := List.getElem?_of_mem hf
          have hil : i < ents.size := by
            rcases Nat.lt_or_ge i l.length with h | h
            · omega
            · rw [List.getElem?_eq_none h] at hi; cases hi
          obtain ⟨f', hf', hkf⟩ := hkey i ents[i] (by simp [hil])
          rw [hi] at hf'; cases hf'
          obtain ⟨f'', hf'', hr⟩ := hread ents[i] (by simp)
          refine ⟨_, mem_sorted.2 (List.mem_map.2 ⟨ents[i], by simp, rfl⟩), ?_⟩
          have hkk : keyOf Pr k ents[i].key = some (.string (n f)) := by
            rw [hkf]
            have := hlen f hf
            simp [keyOf, hk, mapKey, encStr, ByteArray.size, this]
          simp [WideElems.rg, WideElems.rd, hkk, Lit.sameKey]
        · rintro ⟨p, hp, hs⟩
          obtain ⟨m, hm, rfl⟩ := List.mem_map.1 (mem_sorted.1 hp)
          obtain ⟨f, hf, hr⟩ := hread m hm
          rw [WideElems.rg, hr] at hs
          simp [Lit.sameKey] at hs
          exact List.mem_map.2 ⟨f, hf, hs⟩
  · exact hp.symm
  · have := hp.length_eq
    simpa [strKeys, Maps.size] using this.symm
end Go.Ab
/-
  The sorted keys of a map by strings.
-/
namespace Go.Ab
open Go.Proofs
variable {Pr : Program} {M M' : Mem} {env : List Blk} {H : Heap} {w w' : World} {g : G}

theorem alloc_heap (w : World) (o : Go.Obj) : (w.alloc o).heap = w.heap.push o := rfl

theorem CallOK.keysFn {ρ : Shelf.Ren} {c : FuncId} {it : FuncId} (L : SlLaysZ.n7 Pr ρ) (hc : ρ.f 7 = c) (hi : ρ.f 10 = it) (hen : Enters Pr c) (mid : Nat) :
    CallOK Pr c [.mp mid] H (fun r H' => r = .fn (.func it) [] [.box mid] ∧ H' = H) := by
  subst hc; subst hi
  refine CallOK.of_calls hen (fun g M env w vs hst hr => ?_)
  obtain ⟨v, vs', rfl, hv, hr'⟩ := hr.cons_inv
  obtain rfl := hr'.nil_inv
  cases hv with
  | mp h1 h2 =>
  rename_i blk b
  have hk := callsIn_wide.1 (AnyZ.keys_in L Fence.wide 5 trivial rfl (some b) w)
  refine hk.mono ?_
  rintro e w' ⟨rfl, rfl⟩
  have hnew : (w.alloc (.cells #[.map (some b)] (ρ.t 23))).heap[w.heap.size]? = some (.cells #[.map (some b)] (ρ.t 23) (0, 0)) := by rw [alloc_heap, Array.getElem?_push_size]
  obtain ⟨M'', he, hst', hM⟩ := hst.result (w' := w.alloc (.cells #[.map (some b)] (ρ.t 23))) ⟨rfl, rfl, rfl⟩ (by rw [alloc_heap]; simp) (fun b' hb' => by rw [alloc_heap, Array.getElem?_push_lt hb', ← Array.getElem?_eq_getElem]) hnew (Nat.le_refl _)
  refine ⟨_, _, _, M'', env, rfl, ⟨rfl, rfl⟩, he, hst', ?_⟩
  refine .fn rfl rfl (fun i c x hi _ => by simp at hi) (fun i c x hi hx => ?_)
  cases i with
  | zero => simp at hi hx; subst hi; subst hx; exact .box h1 h2 (hM 0 _ (by simp))
  | succ i => simp at hi

/-- Strings as rows. -/
def strRow (s : List UInt8) : List P := [.str s]

theorem CallOK.sortedKeys {α : Type} {k : TypeId} {ρk ρs ρm : Shelf.Ren} {c it so : FuncId} (Lk : SlLaysZ.n10 Pr ρk) (L : SlLaysZ.n6 Pr ρs) (Lm : SlLaysM.n6 Pr ρm)
    (hk : Pr.underlying k = some .string) (K : Maps.Keyed Pr k) (hkt : ρk.t 26 = k) (hc : ρs.f 6 = c) (hso : ρs.f 9 = so) (hso' : ρm.f 6 = so) (hi : ρk.f 10 = it) (hen : Enters Pr c) (hens : Enters Pr so) (heni : Enters Pr it)
    {mid ck : Nat} {l : List α} {n : α → List UInt8} {v : α → D} {bs : List Nat}
    (hmap : nth H mid = some (.map (l.map fun f => (P.str (n f), v f)) bs ck)) (hnd : (l.map n).Nodup) (hlen : ∀ f ∈ l, (n f).length ≤ maxLen) (hbs : bs.Nodup) (hlt : ∀ b ∈ bs, b < ck) (hsz : l.length ≤ 1000000) :
    CallOK Pr c [.fn (.func it) [] [.box mid]] H (fun r H' => r = .p (.lst (((l.map n).mergeSort leB).map strRow)) ∧ H' = H) := by
  subst hc; subst hi; subst hkt; subst hso
  refine CallOK.of_calls hen (fun g M env w vs hst hr => ?_)
  obtain ⟨fv, vs', rfl, hv, hr'⟩ := hr.cons_inv
  obtain rfl := hr'.nil_inv
  cases hv with
  | fn hlf hlc hf hcp =>
  rename_i vf vc
  have evf : vf = #[] := by simpa [eq_comm] using hlf
  subst evf
  obtain ⟨x0, rfl⟩ : ∃ x, vc = #[x] := by
    have : vc.size = 1 := by simpa using hlc.symm
    exact Array.size_eq_one_iff.1 this
  have hp := hcp 0 _ x0 rfl (by simp)
  cases hp with
  | box h1 h2 h3 =>
  rename_i blk a b
  have hmaxs : (1000000 : Nat) ≤ maxLen := by unfold maxLen; decide
  obtain ⟨bm, D0, hbm, hown, hperm, hsize⟩ := hst.sim.ownsStr hk K hmap hnd hlen hbs hlt (Nat.le_trans hsz hmaxs) (RdD.mp h1 h2)
  cases hbm
  have hcell := hst.sim.mem _ _ _ h3
  have hal : a < w.heap.size := cell_lt hcell
  have hseq : SeqGives Fence.wide 2 Pr (ρk.f 10) #[.pointer (some ⟨a, 0, none⟩)] encStr (fun ss => ss.Perm (strKeys D0)) (Maps.size D0) w :=
    AnyZ.keys_gives (ρ := ρk) Lk Fence.wide _ trivial rfl (by omega) a b _ D0 w hal hcell hown
  have hsorts : AnyZ.SortsIn Pr ρs Fence.wide (5 - 1) :=
    ⟨fun blk off cap ss W hH hblk hsz => by rw [← hso']; exact callsIn_wide.2 (AnyM.slices_Sort_string Lm blk off cap ss W hH hblk hsz),
     fun p cap W => by rw [← hso']; exact callsIn_wide.2 (AnyM.slices_Sort_string_none Lm p cap W)⟩
  have cS := callsIn_wide.1 (AnyZ.sorted_in L Fence.wide 5 trivial trivial trivial trivial rfl (by omega) hsorts hens (ρk.f 10) #[.pointer (some ⟨a, 0, none⟩)] trivial heni _ _ (by rw [hsize]; exact Nat.le_trans hsz hmaxs) (by rw [hsize]; omega) w hseq)
  refine cS.mono ?_
  rintro e w' ⟨v', ss, rfl, hS, hrow, hnil, hb⟩
  have hsort : ss.mergeSort leB = (l.map n).mergeSort leB := mergeSort_of_perm (hS.trans hperm)
  obtain ⟨hxl, hor⟩ := hrow
  rcases hor with ⟨rfl, hz⟩ | ⟨gb, cap, cur, rfl, hbase, hblk, hle, hcap, hcur, htake⟩
  · have hss : ss = [] := List.length_eq_zero_iff.1 hz
    subst hss
    have : (l.map n).mergeSort leB = [] := by rw [← hsort]; simp
    rw [this]
    exact ⟨_, _, H, M, env, rfl, ⟨rfl, rfl⟩, Ext.refl _ _, hst.older ⟨hb.os, hb.output, hb.tape⟩ hb.size (fun b hbb => hb.block b hbb), .p .lstNil⟩
  · obtain ⟨M'', he, hst', hM⟩ := hst.result ⟨hb.os, hb.output, hb.tape⟩ hb.size (fun b hbb => hb.block b hbb) hblk hbase
    refine ⟨_, _, H, M'', env, rfl, ⟨rfl, rfl⟩, he, hst', ?_⟩
    have hlen2 : (((l.map n).mergeSort leB).map strRow).length = ss.length := by rw [← hsort]; simp
    rw [← hlen2] at hle ⊢
    rw [Nat.mul_one] at htake
    change cur.toList.take ss.length = (ss.mergeSort leB).map encStr at htake
    rw [hsort] at htake
    have hat : ∀ (i : Nat) (s : List UInt8), ((l.map n).mergeSort leB)[i]? = some s → cur[i]? = some (encStr s) := by
      intro i s hs
      have h8 : (cur.toList.take ss.length)[i]? = some (encStr s) := by rw [htake]; simp [hs]
      rw [List.getElem?_take] at h8
      split at h8
      · simpa using h8
      · cases h8
    have hshape : ∀ (i j : Nat) (row : List P) (p : P), (((l.map n).mergeSort leB).map strRow)[i]? = some row → row[j]? = some p → ∃ s, ((l.map n).mergeSort leB)[i]? = some s ∧ j = 0 ∧ p = .str s := by
      intro i j row p hi hj
      rw [List.getElem?_map] at hi
      cases hs : ((l.map n).mergeSort leB)[i]? with
      | none => rw [hs] at hi; cases hi
      | some s =>
        rw [hs] at hi; simp at hi; subst hi
        cases j with
        | zero => simp [strRow] at hj; subst hj; exact ⟨s, rfl, rfl, rfl⟩
        | succ j => simp [strRow] at hj
    refine .p (.lst (k := 1) (c := fun i _ => encStr (((l.map n).mergeSort leB)[i]?.getD [])) (fun r hr => ?_) hle (fun i j row p hi hj => ?_) (fun i j row p hi hj => ?_))
    · obtain ⟨s, _, rfl⟩ := List.mem_map.1 hr; rfl
    · obtain ⟨s, hs, rfl, rfl⟩ := hshape i j row p hi hj
      rw [hs]
      refine hM _ _ ?_
      have := hat i s hs
      simpa using this
    · obtain ⟨s, hs, rfl, rfl⟩ := hshape i j row p hi hj
      rw [hs]
      exact .str (by simp)
end Go.Ab
/-
  What a call made and hands back stands next in the heap; what else it made is let go.
-/
namespace Go.Ab
variable {Pr : Program} {M M' : Mem} {env : List Blk} {H : Heap} {w w' : World} {g : G}

theorem ObjR.pureRows {env' : List Blk} {blk : Blk} {ps : List (List P)} (h : ObjR M env w blk (.rows (ps.map (·.map D.p)))) : ObjR M env' w blk (.rows (ps.map (·.map D.p))) := by
  simp only [ObjR] at h ⊢
  cases hb : blk.b with
  | none => simpa [hb] using h
  | some b =>
    simp only [hb] at h ⊢
    obtain ⟨c, e, fro, h1, h2, h3, h4, h5, h6⟩ := h
    refine ⟨c, e, fro, h1, h2, h3, h4, fun i j row d hi hj => ?_, h6⟩
    obtain ⟨x, hx, hr⟩ := h5 i j row d hi hj
    refine ⟨x, hx, ?_⟩
    rw [List.getElem?_map] at hi
    cases hp : ps[i]? with
    | none => rw [hp] at hi; cases hi
    | some p =>
      rw [hp] at hi; simp at hi; subst hi
      rw [List.getElem?_map] at hj
      cases hq : p[j]? with
      | none => rw [hq] at hj; cases hj
      | some q =>
        rw [hq] at hj; simp at hj; subst hj
        cases hr with
        | p hr => exact .p hr

theorem get_snoc {α : Type} {l : List α} {x y : α} {i : Nat} (h : (l ++ [x])[i]? = some y) : (l[i]? = some y) ∨ (i = l.length ∧ y = x) := by
  rcases Nat.lt_or_ge i l.length with hi | hi
  · rw [List.getElem?_append_left hi] at h; exact .inl h
  · rw [List.getElem?_append_right hi] at h
    have : i - l.length = 0 := by
      have := get_lt h
      simp at this; omega
    rw [this] at h; simp at h
    exact .inr ⟨by omega, h.symm⟩

theorem StH.tidy {l : Heap} {env' : List Blk} {id : Nat} {blk : Blk} {ps : List (List P)} (h0 : StH g H M env w) (he : Ext M env M' env') (h : StH g (H ++ l) M' env' w') (hid : H.length ≤ id)
    (hb : env'[id]? = some blk) (ho : nth (H ++ l) id = some (.rows (ps.map (·.map D.p)))) : StH g (H ++ [.rows (ps.map (·.map D.p))]) M' (env ++ [blk]) w' := by
  have ht := h0.trim he h
  obtain ⟨lb, rfl⟩ := he.2
  rw [nth_eq] at ho
  have hlen := h0.sim.len
  have hold : ∀ {i : Nat} {b : Blk}, env[i]? = some b → (env ++ lb)[i]? = some b := fun hi => prefix_get (List.prefix_append _ _) hi
  have holdH : ∀ {i : Nat} {o : Obj}, H[i]? = some o → (H ++ l)[i]? = some o := fun hi => prefix_get (List.prefix_append _ _) hi
  refine ⟨ht.ext.trans (Ext.push _ _ _), ⟨by simp [hlen], fun i b o h1 h2 => ?_, fun i j bi bj oi oj b h1 h2 h3 h4 l1 l2 b1 b2 => ?_, h.sim.mem, fun i bl o b j h1 h2 l1 b1 => ?_, fun i bl b h1 b1 => ?_⟩,
    ⟨h.frame.hs, h.frame.fr, fun i bl b h1 hge b1 => ?_, h.frame.newM, h.frame.so⟩⟩
  · rcases get_snoc h2 with h2 | ⟨rfl, rfl⟩
    · rcases get_snoc h1 with h1 | ⟨e, _⟩
      · exact (ht.sim.obj i b o h1 h2).mono (Ext.push _ _ _) (fun _ _ _ => rfl)
      · have := get_lt h2; omega
    · rcases get_snoc h1 with h1 | ⟨_, rfl⟩
      · have := get_lt h1; omega
      · exact (h.sim.obj _ _ _ hb ho).pureRows
  · rcases get_snoc h3 with h3 | ⟨rfl, rfl⟩ <;> rcases get_snoc h4 with h4 | ⟨rfl, rfl⟩
    · rcases get_snoc h1 with h1 | ⟨e, _⟩
      · rcases get_snoc h2 with h2 | ⟨e, _⟩
        · exact ht.sim.dist i j bi bj oi oj b h1 h2 h3 h4 l1 l2 b1 b2
        · have := get_lt h4; omega
      · have := get_lt h3; omega
    · rcases get_snoc h1 with q1 | ⟨e, _⟩
      · rcases get_snoc h2 with q2 | ⟨_, rfl⟩
        · have := get_lt q2; omega
        · have := h.sim.dist i id bi bj oi _ b (hold q1) hb (holdH h3) ho l1 l2 b1 b2
          have := get_lt h3; omega
      · have := get_lt h3; omega
    · rcases get_snoc h2 with q2 | ⟨e, _⟩
      · rcases get_snoc h1 with q1 | ⟨_, rfl⟩
        · have := get_lt q1; omega
        · have := h.sim.dist id j bi bj _ oj b hb (hold q2) ho (holdH h4) l1 l2 b1 b2
          have := get_lt h4; omega
      · have := get_lt h4; omega
    · rfl
  · rcases get_snoc h2 with h2 | ⟨rfl, rfl⟩
    · rcases get_snoc h1 with h1 | ⟨e, _⟩
      · exact h.sim.disj i bl o b j (hold h1) (holdH h2) l1 b1
      · have := get_lt h2; omega
    · rcases get_snoc h1 with h1 | ⟨_, rfl⟩
      · have := get_lt h1; omega
      · exact h.sim.disj id bl _ b j hb ho l1 b1
  · rcases get_snoc h1 with h1 | ⟨_, rfl⟩
    · exact h.sim.lt i bl b (hold h1) b1
    · exact h.sim.lt id bl b hb b1
  · rcases get_snoc h1 with h1 | ⟨_, rfl⟩
    · exact h.frame.newb i bl b (hold h1) hge b1
    · exact h.frame.newb id bl b hb (by have := h0.ext.2.length_le; omega) b1

/-- What a call made and hands back stands next in the heap. -/
theorem CallOK.tidy {c : FuncId} {ds : List D} {ps : List (List P)} {k : Nat} {cap : Option Nat} (hcap : ∀ c', cap = some c' → c' = 0) (h : CallOK Pr c ds H (fun r H' => (∃ l, H' = H ++ l) ∧
      ((r = .p .nil ∧ ps = []) ∨ (∃ id, H.length ≤ id ∧ r = .own id k 0 ps.length cap ∧ nth H' id = some (.rows (ps.map (·.map D.p))))))) :
    CallOK Pr c ds H (fun r H' => r = .own H.length k 0 ps.length cap ∧ H' = H ++ [.rows (ps.map (·.map D.p))]) := by
  refine ⟨h.1, fun g M env w vs fr cs hst hrd => ?_⟩
  obtain ⟨r, H', v, w', M', env', ⟨⟨l, rfl⟩, hor⟩, he, hst', hv, hs⟩ := h.2 g M env w vs fr cs hst hrd
  have hlen := hst.sim.len
  rcases hor with ⟨rfl, rfl⟩ | ⟨id, hid, rfl, hn⟩
  · have ht := hst.trim he hst'
    refine ⟨_, _, v, w', M', env ++ [⟨none, 0, k, 0⟩], ⟨rfl, rfl⟩, ⟨he.1, List.prefix_append _ _⟩, ht.virt rfl, ?_, hs⟩
    cases hv with
    | p hv => cases hv with
      | nil => exact .ownNil (blk := ⟨none, 0, k, 0⟩) (by rw [← hlen]; simp) rfl rfl hcap
  · generalize hpl : ps.length = pl at hv
    cases hv with
    | ownNil h1 h2 h3 h4 =>
      refine ⟨_, _, _, w', M', _, ⟨rfl, rfl⟩, ⟨he.1, List.prefix_append _ _⟩, hst.tidy he hst' hid h1 hn, ?_, hs⟩
      exact .ownNil (by rw [← hlen]; simp) h2 h3 h4
    | own h1 h2 h3 h4 h5 h6 h7 =>
      refine ⟨_, _, _, w', M', _, ⟨rfl, rfl⟩, ⟨he.1, List.prefix_append _ _⟩, hst.tidy he hst' hid h1 hn, ?_, hs⟩
      exact .own (by rw [← hlen]; simp) h2 h3 h4 h5 h6 h7
end Go.Ab
/-
  What is a thing's own in the heap, and what stands beside it.
-/
namespace Go.Ab

/-- From one heap to another: only what is the thing's own is turned; what it owns then it owned, or it is new. -/
structure Goes (H : Heap) (ids : List Nat) (H' : Heap) (ids' : List Nat) : Prop where
  out : ∀ (j : Nat) (o : Obj), j ∉ ids → nth H j = some o → nth H' j = some o
  ids : ∀ j ∈ ids', j ∈ ids ∨ H.length ≤ j
  len : H.length ≤ H'.length

theorem Goes.refl (H : Heap) (ids : List Nat) : Goes H ids H ids := ⟨fun _ _ _ h => h, fun _ h => .inl h, Nat.le_refl _⟩
theorem Goes.trans {H H1 H2 : Heap} {a b c : List Nat} (h : Goes H a H1 b) (h' : Goes H1 b H2 c) : Goes H a H2 c where
  out j o hj ho := h'.out j o (fun hb => by
    rcases h.ids j hb with q | q
    · exact hj q
    · have := nth_lt ho; omega) (h.out j o hj ho)
  ids j hj := by
    rcases h'.ids j hj with q | q
    · exact h.ids j q
    · exact .inr (Nat.le_trans h.len q)
  len := Nat.le_trans h.len h'.len
theorem Goes.app (H l : Heap) (ids : List Nat) : Goes H ids (H ++ l) ids := ⟨fun _ _ _ h => nth_app h, fun _ h => .inl h, by simp⟩
theorem Goes.app1 (H : Heap) (o : Obj) (ids : List Nat) : Goes H ids (H ++ [o]) (H.length :: ids) := ⟨fun _ _ _ h => nth_app h, fun j h => by
  rcases List.mem_cons.1 h with rfl | h
  · exact .inr (Nat.le_refl _)
  · exact .inl h, by simp⟩
theorem Goes.set {H : Heap} {i : Nat} {o : Obj} {ids : List Nat} (h : i ∈ ids) : Goes H ids (setN H i o) ids :=
  ⟨fun j o hj ho => nth_setN_ne (by rintro rfl; exact hj h) ho, fun _ h => .inl h, by simp [setN_length]⟩
theorem Goes.set_new {H H1 : Heap} {i : Nat} {o : Obj} {ids a : List Nat} (h : Goes H a H1 ids) (hi : i ∈ ids) : Goes H a (setN H1 i o) ids := h.trans (Goes.set hi)
theorem Goes.sub {H H' : Heap} {a b c : List Nat} (h : Goes H a H' b) (hc : ∀ j ∈ c, j ∈ b) : Goes H a H' c := ⟨h.out, fun j hj => h.ids j (hc j hj), h.len⟩
/-- What stands apart stays apart. -/
theorem Goes.apart {H H' : Heap} {a b c : List Nat} (h : Goes H a H' b) (hc : ∀ j ∈ c, j ∉ a) (hl : ∀ j ∈ c, j < H.length) : ∀ j ∈ c, j ∉ b := fun j hj hb => by
  rcases h.ids j hb with q | q
  · exact hc j hj q
  · have := hl j hj; omega

theorem flat_apart {α : Type} {g : α → List Nat} : ∀ {l : List α}, (l.flatMap g).Nodup → ∀ {x y : α}, x ∈ l → y ∈ l → x ≠ y → ∀ j ∈ g x, j ∉ g y
  | [], _, x, y, hx, _, _ => by cases hx
  | z :: l, h, x, y, hx, hy, hne => by
    rw [List.flatMap_cons, List.nodup_append] at h
    intro j hj hj'
    rcases List.mem_cons.1 hx with hxz | hx
    · rcases List.mem_cons.1 hy with hyz | hy
      · exact hne (by rw [hxz, hyz])
      · rw [hxz] at hj; exact h.2.2 j hj j (List.mem_flatMap.2 ⟨y, hy, hj'⟩) rfl
    · rcases List.mem_cons.1 hy with hyz | hy
      · rw [hyz] at hj'; exact h.2.2 j hj' j (List.mem_flatMap.2 ⟨x, hx, hj⟩) rfl
      · exact flat_apart h.2.1 hx hy hne j hj hj'
theorem nodup_mid {a b x x' : List Nat} (h : (a ++ (x ++ b)).Nodup) (h' : x'.Nodup) (hx : ∀ j ∈ x', j ∈ x ∨ (j ∉ a ∧ j ∉ b)) : (a ++ (x' ++ b)).Nodup := by
  rw [List.nodup_append, List.nodup_append] at h ⊢
  obtain ⟨h1, ⟨h2, h3, h4⟩, h5⟩ := h
  refine ⟨h1, ⟨h', h3, fun i hi j hj e => ?_⟩, fun i hi j hj e => ?_⟩
  · subst e
    rcases hx i hi with q | q
    · exact h4 i q i hj rfl
    · exact q.2 hj
  · subst e
    rcases List.mem_append.1 hj with q | q
    · rcases hx i q with r | r
      · exact h5 i hi i (List.mem_append_left _ r) rfl
      · exact r.1 hi
    · exact h5 i hi i (List.mem_append_right _ q) rfl
end Go.Ab
/-
  What keeps a map's stamps in order.
-/
namespace Go.Ab

structure MapOK (es : List (P × D)) (bs : List Nat) (ck : Nat) : Prop where
  nodup : bs.Nodup
  lt : ∀ b ∈ bs, b < ck
  len : bs.length = es.length

theorem delB_sub : ∀ (es : List (P × D)) (k : P) (bs : List Nat), (delB es k bs).Sublist bs
  | [], _, bs => by cases bs <;> exact List.Sublist.refl _
  | _ :: _, _, [] => List.Sublist.refl _
  | e :: es, k, b :: bs => by
    simp only [delB]
    cases isKey k e with
    | true => exact List.sublist_cons_self _ _
    | false => exact (delB_sub es k bs).cons_cons b
theorem delB_len : ∀ {es : List (P × D)} {k : P} {bs : List Nat}, bs.length = es.length → (delB es k bs).length = (delE es k).length
  | [], _, [], _ => rfl
  | [], _, _ :: _, h => by simp at h
  | _ :: _, _, [], h => by simp at h
  | e :: es, k, b :: bs, h => by
    simp only [delB, delE]
    cases isKey k e with
    | true => simpa using h
    | false => simpa using delB_len (by simpa using h)
theorem MapOK.del {es : List (P × D)} {bs : List Nat} {ck : Nat} (h : MapOK es bs ck) (k : P) : MapOK (delE es k) (delB es k bs) ck :=
  ⟨(delB_sub es k bs).nodup h.nodup, fun b hb => h.lt b ((delB_sub es k bs).subset hb), delB_len h.len⟩
theorem updE_len_none : ∀ {es : List (P × D)} {k : P} {d : D}, lookE es k = none → (updE es k d).length = es.length + 1
  | [], _, _, _ => rfl
  | e :: es, k, d, h => by
    simp only [lookE] at h
    simp only [updE]
    cases hk : isKey k e with
    | true => rw [hk] at h; cases h
    | false => rw [hk] at h; simpa using updE_len_none h
theorem updE_len_some : ∀ {es : List (P × D)} {k : P} {d x : D}, lookE es k = some x → (updE es k d).length = es.length
  | [], _, _, _, h => by cases h
  | e :: es, k, d, x, h => by
    simp only [lookE] at h
    simp only [updE]
    cases hk : isKey k e with
    | true => simp
    | false => rw [hk] at h; simpa using updE_len_some h
theorem MapOK.upd {es : List (P × D)} {bs : List Nat} {ck : Nat} (h : MapOK es bs ck) (k : P) (d : D) : MapOK (updE es k d) (updB es k bs ck) (updC es k ck) := by
  unfold updB updC
  cases hl : lookE es k with
  | some x => exact ⟨h.nodup, h.lt, by rw [h.len, updE_len_some hl]⟩
  | none =>
    refine ⟨List.nodup_append.2 ⟨h.nodup, by simp, fun a ha b hb e => ?_⟩, fun b hb => ?_, by rw [updE_len_none hl]; simp [h.len]⟩
    · simp at hb; subst hb; subst e; exact Nat.lt_irrefl _ (h.lt _ ha)
    · rcases List.mem_append.1 hb with q | q
      · exact Nat.lt_succ_of_lt (h.lt _ q)
      · simp at q; subst q; exact Nat.lt_succ_self _
theorem updE_str_old {α : Type} (n : α → List UInt8) (v : α → D) (name : List UInt8) (d : D) : ∀ (l : List α), (l.map n).Nodup → (∃ f ∈ l, name = n f) →
    updE (l.map fun f => (P.str (n f), v f)) (.str name) d = l.map fun f => (P.str (n f), if name = n f then d else v f)
  | [], _, h => by obtain ⟨_, h, _⟩ := h; cases h
  | f :: l, hn, h => by
    simp only [List.map_cons, updE, isKey_str]
    rw [List.map_cons, List.nodup_cons] at hn
    by_cases hf : name = n f
    · simp only [hf, decide_true, cond_true, if_true, List.cons.injEq, true_and]
      refine List.map_congr_left fun g hg => ?_
      have : n f ≠ n g := fun e => hn.1 (by rw [e]; exact List.mem_map.2 ⟨g, hg, rfl⟩)
      simp [this]
    · simp only [hf, decide_false, cond_false, if_false, List.cons.injEq, true_and]
      refine updE_str_old n v name d l hn.2 ?_
      obtain ⟨g, hg, e⟩ := h
      rcases List.mem_cons.1 hg with rfl | hg
      · exact absurd e hf
      · exact ⟨g, hg, e⟩
end Go.Ab
/-
  Bytes that are made.
-/
namespace Go.Ab
variable {Pr : Program} {H : Heap}

theorem byteRow_map (b : List UInt8) : (b.map byteRow).map (·.map D.p) = b.map byteRowD := by
  induction b with
  | nil => rfl
  | cons x b ih => simp only [List.map_cons, ih]; rfl
theorem NewSlice.bytes {k : Nat} {rows : List (List D)} {len : Nat} {cap : Option Nat} {F : D → Heap → Prop} (b : List UInt8) (h1 : rows = b.map byteRowD) (h2 : len = b.length) (hk : k = 1) (h : Onw (F (.p (.lst (b.map byteRow))) H)) : NewSlice H k rows len cap F :=
  .lst (b.map byteRow) (by rw [byteRow_map]; exact h1) (by simpa using h2) (fun r hr => by obtain ⟨x, _, rfl⟩ := List.mem_map.1 hr; rw [hk]; rfl) h
theorem NewMade.bytes {size : Nat} {n c : Int} {zc : List D} {F : D → Heap → Prop} (m : Nat) (h1 : n = m) (h2 : c = m) (h3 : zc = byteRowD 0) (h : Onw (F (.p (.lst ((List.replicate m (0 : UInt8)).map byteRow))) H)) : NewMade size n c zc H F := by
  refine .lst (byteRow 0) (by rw [h1, h2]) (by rw [h3]; rfl) ?_
  have e : (List.replicate m (0 : UInt8)).map byteRow = List.replicate c.toNat (byteRow 0) := by rw [h2]; simp
  rw [← e]; exact h
theorem bytesOf_rows (b : List UInt8) : bytesOfD (b.map byteRowD) = some b := by
  induction b with
  | nil => rfl
  | cons x b ih =>
    have h1 : byteOfD (byteRowD x) = some x := by
      have := x.toNat_lt
      simp [byteOfD, byteRowD]
    simp only [List.map_cons, bytesOfD, ih, h1]
theorem bytesOf_lst (b : List UInt8) : bytesOfD ((b.map byteRow).map (·.map D.p)) = some b := by rw [byteRow_map]; exact bytesOf_rows b
theorem lenD_lst (b : List UInt8) : lenD (.p (.lst (b.map byteRow))) = some ((b.map byteRow).map (·.map D.p)).length := by simp [lenD]
theorem RdL.split {M : Mem} {env : List Blk} {pre post : List D} {d : D} {vs : List Value} (h : RdL M env (pre ++ d :: post) vs) : ∃ v1 v v2, vs = v1 ++ v :: v2 ∧ RdL M env pre v1 ∧ RdD M env d v ∧ RdL M env post v2 := by
  induction pre generalizing vs with
  | nil => obtain ⟨v, vs', rfl, h1, h2⟩ := h.cons_inv; exact ⟨[], v, vs', rfl, .nil, h1, h2⟩
  | cons p pre ih =>
    obtain ⟨v, vs', rfl, h1, h2⟩ := RdL.cons_inv h
    obtain ⟨v1, v0, v2, rfl, h3, h4, h5⟩ := ih h2
    exact ⟨v :: v1, v0, v2, rfl, .cons h1 h3, h4, h5⟩
/-- A slice that is handed on, never to be written again. -/
theorem CallOK.frz {c : FuncId} {pre post : List D} {id k st len : Nat} {cap : Option Nat} {rs : List (List D)} {ps : List (List P)} {R : D → Heap → Prop} (ho : nth H id = some (.rows rs))
    (hps : (rs.drop st).take len = ps.map (·.map D.p)) (hl : len = ps.length) (hk : ∀ r ∈ ps, r.length = k) (h : CallOK Pr c (pre ++ .p (.lst ps) :: post) (setN H id .gone) R) : CallOK Pr c (pre ++ .own id k st len cap :: post) H R := by
  refine ⟨h.1, fun g M env w vs fr cs hst hr => ?_⟩
  obtain ⟨v1, v, v2, rfl, h1, h2, h3⟩ := hr.split
  obtain ⟨M'', he, hst', hv⟩ := hst.freezeAt ho h2 hps hl hk
  rw [← setN_eq] at hst'
  obtain ⟨r, H', v', w', M', env', q1, q2, q3⟩ := h.2 g M'' env w (v1 ++ v :: v2) fr cs hst' ((h1.mono he).append (.cons hv (h3.mono he)))
  exact ⟨r, H', v', w', M', env', q1, he.trans q2, q3⟩
theorem CallOK.frzB {c : FuncId} {pre post : List D} {id len : Nat} {cap : Option Nat} {rs : List (List D)} {R : D → Heap → Prop} (b : List UInt8) (ho : nth H id = some (.rows rs))
    (hps : rs.take len = b.map byteRowD) (hl : len = b.length) (h : CallOK Pr c (pre ++ .p (.lst (b.map byteRow)) :: post) (setN H id .gone) R) : CallOK Pr c (pre ++ .own id 1 0 len cap :: post) H R :=
  .frz (ps := b.map byteRow) ho (by rw [byteRow_map, List.drop_zero]; exact hps) (by simpa using hl) (fun r hr => by obtain ⟨x, _, rfl⟩ := List.mem_map.1 hr; rfl) h
/-- Nothing of what was there is turned. -/
theorem prefix_of {H H' : Heap} (h : ∀ j o, nth H j = some o → nth H' j = some o) : ∃ l, H' = H ++ l := by
  induction H generalizing H' with
  | nil => exact ⟨H', rfl⟩
  | cons x H ih =>
    have h0 := h 0 x rfl
    cases H' with
    | nil => simp [nth] at h0
    | cons y H' =>
      simp [nth] at h0
      subst h0
      obtain ⟨l, rfl⟩ := ih (H' := H') (fun j o hj => h (j + 1) o hj)
      exact ⟨l, rfl⟩
theorem Goes.pre {H H' : Heap} {ids : List Nat} (h : Goes H [] H' ids) : ∃ l, H' = H ++ l := prefix_of (fun j o ho => h.out j o (by simp) ho)
end Go.Ab
/-
  From what a function does to what its row says.
-/
namespace Go.Ab
open Go.ChangeShapes Go.WideShapes Go.ChangeAt Go.RowKit
variable {Pr : Program}

/-- All memory, as it is. -/
def memOf (w : World) : Mem := fun b i => w.cell? ⟨b, i, none⟩
theorem Spec.law {f : FuncId} {ds : List D} (h : Spec Pr f ds [] (fun r _ => r = boolD true)) {w : World} {vs : List Value} (hr : RdL (memOf w) [] ds vs) :
    Calls Pr f vs.toArray w fun e w' => e = .returned (.bool true) ∧ RowKit.Below w.heap.size w w' := by
  intro cs
  have hsim : SimH (memOf w) [] [] w := ⟨rfl, fun i blk o h => by simp at h, fun i j bi bj oi oj b h => by simp at h, fun b i x hx => hx, fun i blk o b j h => by simp at h, fun i blk b h => by simp at h⟩
  obtain ⟨v, w', fr', ⟨r, H', M', env', rfl, hst', hrv⟩, hsteps, hfn, hleave⟩ := h.2 w (memOf w) [] vs cs hsim hr
  have hv : v = .bool true := by
    cases hrv with
    | p q => cases q with
      | bool => rfl
  subst hv
  have hfr := hst'.frame
  exact ⟨_, w', fr', ⟨rfl, ⟨hfr.so.1, hfr.so.2.2, hfr.so.2.1, hfr.hs, fun b hb => hfr.fr b hb (by simp)⟩⟩, hsteps, hfn, hleave⟩

theorem trodAll_below {H : Type} {enc : TypeId × Value → H} (hl : laidOutB Pr = true) {W W' : World} (hn : RowKit.Below W.heap.size W W') : ∀ {ts : List TypeId} {vs : List Value} {ds : List (DataW H)} {ps : List MemPlace},
    (∀ t ∈ ts, Pr.readableRec t = true ∧ t < Pr.types.size) → DataW.TrodAll enc Pr W 0 (fun _ => true) true ts vs ds ps → (∀ x ∈ ps, x.block < W.heap.size) →
    DataW.TrodAll enc Pr W' 0 (fun b => decide (b < W.heap.size)) true ts vs ds ps
  | [], vs, ds, ps, _, h, _ => by
    obtain ⟨rfl, rfl, rfl⟩ := trodAll_nil h
    exact trodAll_mk0
  | t :: ts, vs, ds, ps, ht, h, hlt => by
    obtain ⟨v, vs', d, ds', p, p', rfl, rfl, rfl, h1, h2⟩ := trodAll_cons h
    have h0 := ht t List.mem_cons_self
    exact trodAll_cons_mk (RowKit.Below.trod hl h0.1 h0.2 h1 hn (fun x hx => hlt x (List.mem_append_left _ hx))) (trodAll_below hl hn (fun t hx => ht t (List.mem_cons_of_mem _ hx)) h2 (fun x hx => hlt x (List.mem_append_right _ hx)))

theorem law_post {f : Func} {s : ChangeSpec} {W W' : World} {args : Array Value} {b : TypeId} {H : Type} {enc : TypeId × Value → H} {ds : List (DataW H)} {p : List MemPlace} (hl : laidOutB Pr = true)
    (ht : ∀ t ∈ f.params.toList, Pr.readableRec t = true ∧ t < Pr.types.size) (hr : f.resultTypes = #[b]) (hb : Pr.underlying b = some .bool) (hvars : s.vars = [])
    (hW : DataW.Whole enc Pr f.params.toList s.vars false W args.toList ds [] p) (hA : DataW.TrodAll enc Pr W 0 (fun _ => true) true f.params.toList args.toList ds p)
    (hres : (s.fn H (ds ++ [])).results = [.lit (.bool true)]) (hargs : (s.fn H (ds ++ [])).args = ds) (hv : (s.fn H (ds ++ [])).vars = []) (hn : RowKit.Below W.heap.size W W') :
    ChangeSpec.post enc Pr f s false true false false W args (.bool true) W' := by
  have hlt : ∀ x ∈ p, x.block < W.heap.size := fun x hx => by simpa using hW.lt x hx
  refine ⟨_, _, _, [], p, [], hW, ?_, ?_, ?_, hn.frame _, fun h => by cases h⟩
  · rw [hres, hr]; exact trodAll_cons_mk (shut_bool hb _) trodAll_mk0
  · rw [hargs]; exact trodAll_below hl hn ht hA hlt
  · rw [hvars, hv]; rfl
theorem wf_u8 {a : Int} (h : (Lit.int .u8 a).wf = true) : ∃ n : Nat, a = n ∧ n < 256 := by
  have h2 : 0 ≤ a ∧ a < 256 := by
    have e1 : IntKind.u8.min = 0 := rfl
    have e2 : IntKind.u8.max = 255 := rfl
    simp [Lit.wf] at h
    omega
  exact ⟨a.toNat, by omega, by omega⟩
end Go.Ab
/-
  Arguments opened.
-/
namespace Go.Ab
open Go.ChangeShapes Go.WideShapes Go.ChangeAt Go.RowKit
variable {Pr : Program}

theorem add_addr (b o i : Nat) : (⟨b, o, none⟩ : Addr).add i = ⟨b, o + i, none⟩ := by
  unfold Addr.add
  split
  · rename_i h; subst h; rfl
  · rfl
theorem open_bytesL {H : Type} {enc : TypeId × Value → H} {W : World} {base : Nat} {t e : TypeId} {v : Value} {d : DataW H} {p : List MemPlace} (ht : Pr.underlying t = some (.slice e)) (he : Pr.underlying e = some (.int .u8))
    (hc : Pr.cellsOf e = 1) (hok : Value.okWide Pr W .any base t v) (h : DataW.Trod enc Pr W 0 (fun _ => true) true t v d p) : ∃ b : List UInt8, RdD (memOf W) [] (.p (.lst (b.map byteRow))) v := by
  obtain ⟨ao, len, cap, rfl⟩ := okWide_slice ht hok
  obtain ⟨fuel, hf⟩ := h
  rcases open_ints ht he hc hf with ⟨hcs, hx⟩ | ⟨a, len', cap', zs, hcs, _, hl, hm, hz, hx, hcell, hwz⟩
  · simp [Value.cells] at hcs
    obtain ⟨rfl, rfl, rfl⟩ := hcs
    exact ⟨[], .p .lstNil⟩
  · simp [Value.cells] at hcs
    obtain ⟨rfl, rfl, rfl⟩ := hcs
    simp only [if_true] at hz
    have hsp : a.spot = none := by
      have h2 := hok
      simp only [Value.okWide, ht, Cell.okWide, Cell.ok, World.has] at h2
      exact h2.2.2.2.1
    obtain ⟨blk, off, spot⟩ := a
    simp only at hsp
    subst hsp
    refine ⟨(zs.take len).map fun n => UInt8.ofNat n.toNat, ?_⟩
    have hlen : (((zs.take len).map fun n => UInt8.ofNat n.toNat).map byteRow).length = len := by simp; omega
    have hbyte : ∀ (i j : Nat) (row : List P) (p : P), (((zs.take len).map fun n => UInt8.ofNat n.toNat).map byteRow)[i]? = some row → row[j]? = some p → j = 0 ∧ i < len ∧ p = .int .u8 (zs.getD i 0) := by
      intro i j row p hi hj
      simp only [List.getElem?_map, Option.map_eq_some_iff] at hi
      obtain ⟨y, ⟨n, hn, rfl⟩, rfl⟩ := hi
      rw [List.getElem?_take] at hn
      split at hn
      · rename_i hil
        have hn2 : n ∈ zs := List.mem_of_getElem? hn
        obtain ⟨m, rfl, hm2⟩ := wf_u8 (hwz n hn2)
        cases j with
        | zero =>
          simp [byteRow] at hj
          refine ⟨rfl, hil, ?_⟩
          rw [← hj]
          have : zs.getD i 0 = (m : Int) := by simp [List.getD, hn]
          rw [this]
          simp
          omega
        | succ j => simp [byteRow] at hj
      · cases hn
    have hr := RdP.lst (M := memOf W) (rows := ((zs.take len).map fun n => UInt8.ofNat n.toNat).map byteRow) (k := 1) (b := blk) (o := off) (cap := cap) (c := fun i _ => .int .u8 (zs.getD i 0))
      (fun r hr => by obtain ⟨x, _, rfl⟩ := List.mem_map.1 hr; rfl) (by rw [hlen]; exact hl) (fun i j row p hi hj => by
        obtain ⟨rfl, hil, _⟩ := hbyte i j row p hi hj
        have h1 := hcell i (by omega)
        rw [add_addr] at h1
        unfold memOf
        rw [show off + i * 1 + 0 = off + i by omega]
        exact h1) (fun i j row p hi hj => by
        obtain ⟨rfl, _, rfl⟩ := hbyte i j row p hi hj
        exact .int)
    rw [hlen] at hr
    exact .p hr
theorem wf_U8 {a : Int} (h : (Lit.int .u8 a).wf = true) : ∃ c : UInt8, a = c.toNat := by
  obtain ⟨n, rfl, hn⟩ := wf_u8 h
  exact ⟨UInt8.ofNat n, by simp; omega⟩
theorem wf_u16 {a : Int} (h : (Lit.int .u16 a).wf = true) : ∃ n : Nat, a = n ∧ n < 65536 := by
  have h2 : 0 ≤ a ∧ a < 65536 := by
    have e1 : IntKind.u16.min = 0 := rfl
    have e2 : IntKind.u16.max = 65535 := rfl
    simp [Lit.wf] at h
    omega
  exact ⟨a.toNat, by omega, by omega⟩
theorem wf_i64 {a : Int} (h : (Lit.int .i64 a).wf = true) : -9223372036854775808 ≤ a ∧ a ≤ 9223372036854775807 := by
  have e1 : IntKind.i64.min = -9223372036854775808 := rfl
  have e2 : IntKind.i64.max = 9223372036854775807 := rfl
  simp [Lit.wf] at h
  omega
end Go.Ab
/-
  Slices that grow in a loop; words of 8, 32, 64 bits.
-/
namespace Go.Ab
variable {Pr : Program} {H : Heap}

/-- A nil slice, told as one of its own. -/
theorem Run.virt {f : FuncId} {nt m : Nat} {k : List CI} {T : Tm} {R : D → Heap → Prop} (t kk : Nat) (ht : get T t = some (.p .nil)) (h : Run Pr f nt m k ((t, .own H.length kk 0 0 none) :: T) (H ++ [.rows []]) R) : Run Pr f nt m k T H R := by
  intro g M env a w b its cs hm hf hk hc hst
  refine h g M (env ++ [⟨none, 0, kk, 0⟩]) a w b its cs hm hf hk hc ⟨hst.h.virt rfl, fun i d hi => ?_, hst.size, hst.defers⟩
  rw [get_cons] at hi
  by_cases hti : t = i
  · subst hti
    simp at hi
    subst hi
    obtain ⟨x, hx, hr⟩ := hst.tmps t _ ht
    refine ⟨x, hx, ?_⟩
    cases hr with
    | p hr => cases hr with
      | nil => exact .ownNil (blk := ⟨none, 0, kk, 0⟩) (by rw [← hst.h.sim.len]; simp) rfl rfl (fun c' h => by cases h)
  · simp only [hti, if_false] at hi
    obtain ⟨x, hx, hr⟩ := hst.tmps i d hi
    exact ⟨x, hx, hr.mono (Ext.push _ _ _)⟩

/-- Behind the heap H: a slice's rows under id. -/
def OwnL (H H' : Heap) (id : Nat) (ps : List (List P)) : Prop := H.length ≤ id ∧ (∃ l, H' = H ++ l) ∧ nth H' id = some (.rows (ps.map (·.map D.p)))
theorem setN_behind {H : Heap} {l : Heap} {id : Nat} {o : Obj} (h : H.length ≤ id) : ∃ l', setN (H ++ l) id o = H ++ l' :=
  ⟨setN l (id - H.length) o, by rw [setN_eq, setN_eq, List.set_append_right _ _ h]⟩
theorem OwnL.start (H : Heap) : OwnL H (H ++ [.rows []]) H.length [] := ⟨Nat.le_refl _, ⟨_, rfl⟩, nth_new rfl⟩
theorem OwnL.app {H H' : Heap} {id id2 : Nat} {ps xs : List (List P)} (h : OwnL H H' id ps) (hid : id2 = H'.length) : OwnL H (setN H' id .gone ++ [.rows ((ps ++ xs).map (·.map D.p))]) id2 (ps ++ xs) := by
  obtain ⟨h1, ⟨l, rfl⟩, h3⟩ := h
  obtain ⟨l', hl'⟩ := setN_behind (l := l) (o := .gone) h1
  refine ⟨?_, ⟨l' ++ [.rows ((ps ++ xs).map (·.map D.p))], by rw [hl', List.append_assoc]⟩, nth_new (by rw [hid, setN_length])⟩
  rw [hid]; simp
theorem OwnL.bytes {H H' : Heap} {id id2 : Nat} {a b : List UInt8} {X : List (List D)} (h : OwnL H H' id (a.map byteRow)) (hid : id2 = H'.length) (hX : X = (a ++ b).map byteRowD) :
    OwnL H (setN H' id .gone ++ [.rows X]) id2 ((a ++ b).map byteRow) := by
  have := h.app (xs := b.map byteRow) hid
  rw [← List.map_append, byteRow_map] at this
  rw [hX]; exact this
theorem OwnL.len {H H' : Heap} {id : Nat} {ps : List (List P)} (h : OwnL H H' id ps) : H.length ≤ H'.length := by
  obtain ⟨_, ⟨l, rfl⟩, _⟩ := h; simp
/-- What else is made besides. -/
theorem OwnL.more {H H' : Heap} {id : Nat} {ps : List (List P)} (h : OwnL H H' id ps) (l : Heap) : OwnL H (H' ++ l) id ps := by
  obtain ⟨h1, ⟨l0, rfl⟩, h3⟩ := h
  exact ⟨h1, ⟨l0 ++ l, by rw [List.append_assoc]⟩, nth_app h3⟩

theorem wrapU8 {n : Nat} (h : n < 256) : IntKind.u8.wrap (n : Int) = n := by
  simp [IntKind.wrap, IntKind.bits, IntKind.signed]; omega
theorem wrapU32 {n : Nat} (h : n < 4294967296) : IntKind.u32.wrap (n : Int) = n := by
  simp [IntKind.wrap, IntKind.bits, IntKind.signed]; omega
theorem wrapU64 {n : Nat} (h : n < 18446744073709551616) : IntKind.u64.wrap (n : Int) = n := by
  simp [IntKind.wrap, IntKind.bits, IntKind.signed]; omega
theorem wrapU8_mod (n : Nat) : IntKind.u8.wrap (n : Int) = ((n % 256 : Nat) : Int) := by
  simp [IntKind.wrap, IntKind.bits, IntKind.signed]
theorem ofInt_nat (w n : Nat) : BitVec.ofInt w (n : Int) = BitVec.ofNat w n := BitVec.ofInt_natCast w n
theorem xor32 {a b : Nat} (ha : a < 4294967296) (hb : b < 4294967296) : IntKind.u32.wrap ((BitVec.ofInt IntKind.u32.bits (a : Int) ^^^ BitVec.ofInt IntKind.u32.bits (b : Int)).toNat : Int) = ((a ^^^ b : Nat) : Int) := by
  have e : (BitVec.ofInt IntKind.u32.bits (a : Int) ^^^ BitVec.ofInt IntKind.u32.bits (b : Int)).toNat = a ^^^ b := by
    rw [ofInt_nat, ofInt_nat, BitVec.toNat_xor, BitVec.toNat_ofNat, BitVec.toNat_ofNat]
    have e1 : 2 ^ IntKind.u32.bits = 4294967296 := rfl
    rw [e1, Nat.mod_eq_of_lt ha, Nat.mod_eq_of_lt hb]
  rw [e]
  exact wrapU32 (Nat.xor_lt_two_pow (n := 32) ha hb)
theorem and32 {a b : Nat} (ha : a < 4294967296) (hb : b < 4294967296) : IntKind.u32.wrap ((BitVec.ofInt IntKind.u32.bits (a : Int) &&& BitVec.ofInt IntKind.u32.bits (b : Int)).toNat : Int) = ((a &&& b : Nat) : Int) := by
  have e : (BitVec.ofInt IntKind.u32.bits (a : Int) &&& BitVec.ofInt IntKind.u32.bits (b : Int)).toNat = a &&& b := by
    rw [ofInt_nat, ofInt_nat, BitVec.toNat_and, BitVec.toNat_ofNat, BitVec.toNat_ofNat]
    have e1 : 2 ^ IntKind.u32.bits = 4294967296 := rfl
    rw [e1, Nat.mod_eq_of_lt ha, Nat.mod_eq_of_lt hb]
  rw [e]
  exact wrapU32 (Nat.and_lt_two_pow (n := 32) a hb)
theorem or64 {a b : Nat} (ha : a < 18446744073709551616) (hb : b < 18446744073709551616) : IntKind.u64.wrap ((BitVec.ofInt IntKind.u64.bits (a : Int) ||| BitVec.ofInt IntKind.u64.bits (b : Int)).toNat : Int) = ((a ||| b : Nat) : Int) := by
  have e : (BitVec.ofInt IntKind.u64.bits (a : Int) ||| BitVec.ofInt IntKind.u64.bits (b : Int)).toNat = a ||| b := by
    rw [ofInt_nat, ofInt_nat, BitVec.toNat_or, BitVec.toNat_ofNat, BitVec.toNat_ofNat]
    have e1 : 2 ^ IntKind.u64.bits = 18446744073709551616 := rfl
    rw [e1, Nat.mod_eq_of_lt ha, Nat.mod_eq_of_lt hb]
  rw [e]
  exact wrapU64 (Nat.or_lt_two_pow (n := 64) ha hb)
theorem xor8 {a b : Nat} (ha : a < 256) (hb : b < 256) : IntKind.u8.wrap ((BitVec.ofInt IntKind.u8.bits (a : Int) ^^^ BitVec.ofInt IntKind.u8.bits (b : Int)).toNat : Int) = ((a ^^^ b : Nat) : Int) := by
  have e : (BitVec.ofInt IntKind.u8.bits (a : Int) ^^^ BitVec.ofInt IntKind.u8.bits (b : Int)).toNat = a ^^^ b := by
    rw [ofInt_nat, ofInt_nat, BitVec.toNat_xor, BitVec.toNat_ofNat, BitVec.toNat_ofNat]
    have e1 : 2 ^ IntKind.u8.bits = 256 := rfl
    rw [e1, Nat.mod_eq_of_lt ha, Nat.mod_eq_of_lt hb]
  rw [e]
  exact wrapU8 (Nat.xor_lt_two_pow (n := 8) ha hb)
end Go.Ab
/-
  A slice that was grown in a loop, told beside other results.
-/
namespace Go.Ab
variable {Pr : Program} {H : Heap}

theorem CallOK.ownLT {c : FuncId} {ds ds2 : List D} {ps : List (List P)} (hp : pureD.pureL ds2 = true) (hk : ∀ r ∈ ps, r.length = 1) (h : CallOK Pr c ds H (fun r H' => ∃ id, OwnL H H' id ps ∧ r = .tup (.own id 1 0 ps.length none :: ds2))) :
    CallOK Pr c ds H (fun r H' => r = .tup (.p (.lst ps) :: ds2) ∧ H' = H) := by
  refine ⟨h.1, fun g M env w vs fr cs hst hrd => ?_⟩
  obtain ⟨r, H', v, w', M', env', ⟨id, ⟨hid, ⟨l, rfl⟩, hn⟩, rfl⟩, he, hst', hv, hs⟩ := h.2 g M env w vs fr cs hst hrd
  cases hv with
  | tup hl hc =>
  rename_i va
  obtain ⟨v0, h0⟩ : ∃ v0, va[0]? = some v0 := ⟨va[0]'(by rw [← hl]; simp), by rw [Array.getElem?_eq_getElem]⟩
  have hv0 := hc 0 _ v0 rfl h0
  obtain ⟨M'', h1, h2, h3⟩ := hst'.freezeAt hn hv0 (by rw [List.drop_zero, List.take_of_length_le (by simp)]) rfl hk
  rw [List.set_append_right _ _ hid] at h2
  refine ⟨_, H, .tuple va, w', M'', env, ⟨rfl, rfl⟩, ⟨he.1.trans h1.1, List.prefix_refl _⟩, hst.trim (he.trans h1) h2, ?_, hs⟩
  refine .tup (by simpa using hl) (fun i d x hi hx => ?_)
  cases i with
  | zero =>
    simp at hi; subst hi
    rw [h0] at hx; cases hx
    cases h3 with
    | p h3 => exact .p h3
  | succ i =>
    have hi2 : ds2[i]? = some d := by simpa using hi
    have hd := hc (i + 1) d x (by simpa using hi) hx
    exact (hd.mono h1).pure (pureL_get hp hi2)
theorem OwnL.rows {H H' : Heap} {id id2 : Nat} {a b : List (List P)} {X : List (List D)} (h : OwnL H H' id a) (hid : id2 = H'.length) (hX : X = (a ++ b).map (·.map D.p)) :
    OwnL H (setN H' id .gone ++ [.rows X]) id2 (a ++ b) := by
  rw [hX]; exact h.app hid
theorem rows_pre (n : Nat) (rs xs : List (List P)) (hx : ∀ r ∈ xs, r.length = 1 ∧ ∀ p ∈ r, isOne (.p p) = true) (by_ : Nat) (hb : (n + xs.length) * by_ ≤ maxRoom) (hm : n + xs.length ≤ maxS) (hn : n ≤ rs.length) :
    (n + (xs.map (·.map D.p)).length) * by_ ≤ maxRoom ∧ n + (xs.map (·.map D.p)).length ≤ maxS ∧ (∀ r ∈ xs.map (·.map D.p), r.length = 1) ∧ (∀ r ∈ xs.map (·.map D.p), ∀ d ∈ r, isOne d = true) ∧ 0 + n ≤ (rs.map (·.map D.p)).length := by
  rw [List.length_map, List.length_map]
  refine ⟨hb, hm, fun r hr => ?_, fun r hr d hd => ?_, by omega⟩
  · obtain ⟨x, hx0, rfl⟩ := List.mem_map.1 hr
    rw [List.length_map]; exact (hx x hx0).1
  · obtain ⟨x, hx0, rfl⟩ := List.mem_map.1 hr
    obtain ⟨p, hp, rfl⟩ := List.mem_map.1 hd
    exact (hx x hx0).2 p hp
end Go.Ab
/-
  More arguments opened; a slice frozen where a loop begins.
-/
namespace Go.Ab
open Go.ChangeShapes Go.WideShapes Go.ChangeAt Go.RowKit
variable {Pr : Program}

theorem open_strL {H : Type} {enc : TypeId × Value → H} {W : World} {base : Nat} {t : TypeId} {v : Value} {d : DataW H} {p : List MemPlace} (ht : Pr.underlying t = some .string)
    (hok : Value.okWide Pr W .any base t v) (h : DataW.Trod enc Pr W 0 (fun _ => true) true t v d p) : ∃ s : List UInt8, RdD (memOf W) [] (.p (.str s)) v := by
  have h2 := hok
  simp only [Value.okWide, ht, Cell.okWide, Cell.ok] at h2
  cases v <;> simp at h2
  rename_i s
  exact ⟨s.data.toList, .p (.str rfl)⟩
theorem open_strsL {H : Type} {enc : TypeId × Value → H} {W : World} {base : Nat} {t e : TypeId} {v : Value} {d : DataW H} {p : List MemPlace} (ht : Pr.underlying t = some (.slice e)) (he : Pr.underlying e = some .string)
    (hc : Pr.cellsOf e = 1) (hok : Value.okWide Pr W .any base t v) (h : DataW.Trod enc Pr W 0 (fun _ => true) true t v d p) : ∃ l : List (List UInt8), RdD (memOf W) [] (.p (.lst (l.map fun s => [P.str s]))) v := by
  obtain ⟨ao, len, cap, rfl⟩ := okWide_slice ht hok
  obtain ⟨fuel, hf⟩ := h
  rcases open_strings ht he hc hf with ⟨hcs, hx⟩ | ⟨a, len', cap', ss, hcs, _, hl, hm, hz, hx, hcell, hwz⟩
  · simp [Value.cells] at hcs
    obtain ⟨rfl, rfl, rfl⟩ := hcs
    exact ⟨[], .p .lstNil⟩
  · simp [Value.cells] at hcs
    obtain ⟨rfl, rfl, rfl⟩ := hcs
    simp only [if_true] at hz
    have hsp : a.spot = none := by
      have h2 := hok
      simp only [Value.okWide, ht, Cell.okWide, Cell.ok, World.has] at h2
      exact h2.2.2.2.1
    obtain ⟨blk, off, spot⟩ := a
    simp only at hsp
    subst hsp
    refine ⟨(ss.take len).map fun s => s.data.toList, ?_⟩
    have hlen : (((ss.take len).map fun s => s.data.toList).map fun s => [P.str s]).length = len := by simp; omega
    have hrow : ∀ (i j : Nat) (row : List P) (p : P), (((ss.take len).map fun s => s.data.toList).map fun s => [P.str s])[i]? = some row → row[j]? = some p → j = 0 ∧ i < len ∧ p = .str (ss.getD i ByteArray.empty).data.toList := by
      intro i j row p hi hj
      simp only [List.getElem?_map, Option.map_eq_some_iff] at hi
      obtain ⟨y, ⟨n, hn, rfl⟩, rfl⟩ := hi
      rw [List.getElem?_take] at hn
      split at hn
      · rename_i hil
        cases j with
        | zero =>
          simp at hj
          refine ⟨rfl, hil, ?_⟩
          rw [← hj]
          have : ss.getD i ByteArray.empty = n := by simp [List.getD, hn]
          rw [this]
        | succ j => simp at hj
      · cases hn
    have hr := RdP.lst (M := memOf W) (rows := ((ss.take len).map fun s => s.data.toList).map fun s => [P.str s]) (k := 1) (b := blk) (o := off) (cap := cap) (c := fun i _ => .string (ss.getD i ByteArray.empty))
      (fun r hr => by obtain ⟨x, _, rfl⟩ := List.mem_map.1 hr; rfl) (by rw [hlen]; exact hl) (fun i j row p hi hj => by
        obtain ⟨rfl, hil, _⟩ := hrow i j row p hi hj
        have h1 := hcell i (by omega)
        rw [add_addr] at h1
        unfold memOf
        rw [show off + i * 1 + 0 = off + i by omega]
        exact h1) (fun i j row p hi hj => by
        obtain ⟨rfl, _, rfl⟩ := hrow i j row p hi hj
        exact .str rfl)
    rw [hlen] at hr
    exact .p hr
/-- A slice that a loop has made is told, never to be written again. -/
theorem Run.frz {f : FuncId} {nt m : Nat} {k : List CI} {T : Tm} {H : Heap} {R : D → Heap → Prop} (t : Nat) {id kk st len : Nat} {cap : Option Nat} {rs : List (List D)} {ps : List (List P)} (ht : get T t = some (.own id kk st len cap)) (ho : nth H id = some (.rows rs))
    (hps : (rs.drop st).take len = ps.map (·.map D.p)) (hl : len = ps.length) (hk : ∀ r ∈ ps, r.length = kk) (h : Run Pr f nt m k ((t, .p (.lst ps)) :: T) (setN H id .gone) R) : Run Pr f nt m k T H R := by
  intro g M env a w b its cs hm hf hkd hc hst
  obtain ⟨x, hx, hr⟩ := hst.tmps t _ ht
  obtain ⟨M'', he, hst', hv⟩ := hst.h.freezeAt ho hr hps hl hk
  rw [← setN_eq] at hst'
  refine h g M'' env a w b its cs hm hf hkd hc ⟨hst', fun i d hi => ?_, hst.size, hst.defers⟩
  rw [get_cons] at hi
  by_cases hti : t = i
  · subst hti
    simp at hi; subst hi
    exact ⟨x, hx, hv⟩
  · simp only [hti, if_false] at hi
    obtain ⟨y, hy, hr2⟩ := hst.tmps i d hi
    exact ⟨y, hy, hr2.mono he⟩
theorem Run.frzL {f : FuncId} {nt m : Nat} {k : List CI} {T : Tm} {H H' : Heap} {R : D → Heap → Prop} (t : Nat) {id : Nat} {ps : List (List P)} (ht : get T t = some (.own id 1 0 ps.length none)) (hO : OwnL H H' id ps) (hk : ∀ r ∈ ps, r.length = 1)
    (h : Run Pr f nt m k ((t, .p (.lst ps)) :: T) (setN H' id .gone) R) : Run Pr f nt m k T H' R :=
  Run.frz t ht hO.2.2 (by rw [List.drop_zero, List.take_of_length_le (by simp)]) rfl hk h
end Go.Ab
namespace Go.Ab
/-- What the known cells answer to a look-up. -/
theorem ab_look {P : Prop} (h : P := by (first | assumption | ((repeat (first | assumption | with_reducible apply nth_setN_same | ((with_reducible apply nth_setN_ne); · (first | assumption | omega | (simp; omega) | (subst_vars; (first | (simp [setN_length]; done) | (simp [setN_length]; omega))))) | ((with_reducible apply nth_new); (first | assumption | (simp; done) | (simp; omega) | (simp [setN_length]; done) | (simp [setN_length]; omega))) | with_reducible apply nth_app)); done) | fail)) : P := h
theorem ab_lookR {P : Prop} (h : P := by (first | rfl | assumption | ((repeat (first | assumption | with_reducible apply nth_setN_same | ((with_reducible apply nth_setN_ne); · (first | assumption | omega | (simp; omega) | (subst_vars; (first | (simp [setN_length]; done) | (simp [setN_length]; omega))))) | ((with_reducible apply nth_new); (first | assumption | (simp; done) | (simp; omega) | (simp [setN_length]; done) | (simp [setN_length]; omega))) | with_reducible apply nth_app)); done) | fail)) : P := h
theorem ab_known {P : Prop} (h : P := by (first | assumption | omega | decide | fail)) : P := h
theorem ab_asked {P : Prop} (h : P := by (first | with_reducible rfl | assumption | omega | (constructor <;> omega) | fail)) : P := h
end Go.Ab
/-
  The sorted keys of a map by numbers.
-/
namespace Go.Ab
open Go.Proofs
variable {Pr : Program} {M M' : Mem} {env : List Blk} {H : Heap} {w w' : World} {g : G}
theorem SimH.ownsInt {α : Type} {k : TypeId} (hk : Pr.underlying k = some (.int .i64)) (K : Maps.Keyed Pr k) (h : SimH M env H w) {mid ck : Nat} {l : List α} {n : α → Int} {v : α → D} {bs : List Nat}
    (hmap : nth H mid = some (.map (l.map fun f => (P.int .i64 (n f), v f)) bs ck)) (hnd : (l.map n).Nodup) (hlen : ∀ f ∈ l, (Lit.int .i64 (n f)).wf = true) (hbs : bs.Nodup) (hlt : ∀ b ∈ bs, b < ck) (hsz : l.length ≤ maxLen)
    {x : Value} (hx : RdD M env (.mp mid) x) : ∃ b D0, x = .map (some b) ∧ w.ownsMap Pr k anyR b l.length D0 ∧ (intKeys D0).Perm (l.map n) ∧ Maps.size D0 = l.length := by
  cases hx with
  | mp h1 h2 =>
  rename_i blk b
  rw [nth_eq] at hmap
  obtain ⟨b', hb', ents, hw, hl, hbe, hen⟩ := h.obj _ _ _ h1 hmap
  rw [h2] at hb'; cases hb'
  have hsize : ents.size = l.length := by rw [← hl]; simp
  have hkey : ∀ (i : Nat) (m : MapEntry), ents[i]? = some m → ∃ f, l[i]? = some f ∧ m.key = encZ (n f) := by
    intro i m hm
    have hil : i < ents.size := by
      rcases Nat.lt_or_ge i ents.size with h | h
      · exact h
      · rw [Array.getElem?_eq_none h] at hm; cases hm
    have hil2 : i < l.length := by omega
    have he : (l.map fun f => (P.int .i64 (n f), v f))[i]? = some (.int .i64 (n l[i]), v l[i]) := by simp [hil2]
    have := (hen i _ _ m he hm).1
    refine ⟨l[i], by simp [hil2], ?_⟩
    generalize m.key = q at this
    cases this with
    | int => rfl
  have hkeys : ents.toList.map (·.key) = l.map fun f => encZ (n f) := by
    refine List.ext_getElem? fun i => ?_
    simp only [List.getElem?_map, Array.getElem?_toList]
    cases hm : ents[i]? with
    | none =>
      have : l[i]? = none := by
        refine List.getElem?_eq_none ?_
        rw [Array.getElem?_eq_none_iff] at hm; omega
      simp [this]
    | some m =>
      obtain ⟨f, hf, hkf⟩ := hkey i m hm
      simp [hf, hkf]
  have hinj : (l.map fun f => encZ (n f)).Nodup := by
    have e : (l.map fun f => encZ (n f)) = (l.map n).map encZ := by simp
    rw [e]
    refine List.pairwise_map.2 (hnd.imp fun {a b} hab hh => hab ?_)
    simpa [encZ] using hh
  have hread : ∀ (m : MapEntry), m ∈ ents.toList → ∃ f ∈ l, WideElems.rd Pr k anyR m = some (.int .i64 (n f), .lit (.bool true)) := by
    intro m hm
    obtain ⟨i, hi⟩ := List.getElem?_of_mem hm
    obtain ⟨f, hf, hkf⟩ := hkey i m (by simpa using hi)
    refine ⟨f, List.mem_of_getElem? hf, ?_⟩
    simp only [WideElems.rd, hkf, keyOf, hk, mapKey, encZ]
    have := hlen f (List.mem_of_getElem? hf)
    simp [this]
  have hfit : WideElems.Fit Pr k anyR ents ck := by
    refine ⟨by omega, ⟨fun m hm => ?_, by rw [← hbe]; exact hbs, by rw [hkeys]; exact hinj⟩, fun m hm => ?_⟩
    · exact hlt _ (by rw [hbe]; exact List.mem_map.2 ⟨m, hm, rfl⟩)
    · obtain ⟨f, _, hf⟩ := hread m hm; exact ⟨_, hf⟩
  have hown : w.ownsMap Pr k anyR b l.length (.map ((ents.toList.map (WideElems.rg Pr k anyR)).foldr DataW.insert [])) := ⟨ents, ck, hw, hfit, by omega, rfl⟩
  refine ⟨b, _, rfl, hown, ?_, ?_⟩
  all_goals
    have hp : (l.map n).Perm (intKeys (.map ((ents.toList.map (WideElems.rg Pr k anyR)).foldr DataW.insert []))) := by
      obtain ⟨es, hD, hpw, _⟩ := hown.entries K
      obtain rfl := (by simpa using hD : _ = es)
      refine perm_intKeys hpw (fun p hp => ?_) hnd (fun x => ?_)
      · obtain ⟨m, hm, rfl⟩ := List.mem_map.1 (mem_sorted.1 hp)
        obtain ⟨f, _, hf⟩ := hread m hm
        exact ⟨n f, by rw [WideElems.rg, hf]; rfl⟩
      · rw [Maps.has_eq, List.any_eq_true]
        constructor
        · intro hx
          obtain ⟨f, hf, rfl⟩ := List.mem_map.1 hx
          obtain ⟨i, hi⟩ := List.getElem?_of_mem hf
          have hil : i < ents.size := by
            rcases Nat.lt_or_ge i l.length with h | h
            · omega
            · rw [List.getElem?_eq_none h] at hi; cases hi
          obtain ⟨f', hf', hkf⟩ := hkey i ents[i] (by simp [hil])
          rw [hi] at hf'; cases hf'
          obtain ⟨f'', hf'', hr⟩ := hread ents[i] (by simp)
          refine ⟨_, mem_sorted.2 (List.mem_map.2 ⟨ents[i], by simp, rfl⟩), ?_⟩
          have hkk : keyOf Pr k ents[i].key = some (.int .i64 (n f)) := by
            rw [hkf]
            have := hlen f hf
            simp [keyOf, hk, mapKey, encZ, this]
          simp [WideElems.rg, WideElems.rd, hkk, Lit.sameKey]
        · rintro ⟨p, hp, hs⟩
          obtain ⟨m, hm, rfl⟩ := List.mem_map.1 (mem_sorted.1 hp)
          obtain ⟨f, hf, hr⟩ := hread m hm
          rw [WideElems.rg, hr] at hs
          simp [Lit.sameKey] at hs
          exact List.mem_map.2 ⟨f, hf, hs⟩
  · exact hp.symm
  · have := hp.length_eq
    simpa [intKeys, Maps.size] using this.symm
theorem CallOK.keysFnI {ρ : Shelf.Ren} {c : FuncId} {it : FuncId} (L : SlLaysZI.n7 Pr ρ) (hc : ρ.f 7 = c) (hi : ρ.f 10 = it) (hen : Enters Pr c) (mid : Nat) :
    CallOK Pr c [.mp mid] H (fun r H' => r = .fn (.func it) [] [.box mid] ∧ H' = H) := by
  subst hc; subst hi
  refine CallOK.of_calls hen (fun g M env w vs hst hr => ?_)
  obtain ⟨v, vs', rfl, hv, hr'⟩ := hr.cons_inv
  obtain rfl := hr'.nil_inv
  cases hv with
  | mp h1 h2 =>
  rename_i blk b
  have hk := callsIn_wide.1 (AnyZI.keys_in L Fence.wide 5 trivial rfl (some b) w)
  refine hk.mono ?_
  rintro e w' ⟨rfl, rfl⟩
  have hnew : (w.alloc (.cells #[.map (some b)] (ρ.t 23))).heap[w.heap.size]? = some (.cells #[.map (some b)] (ρ.t 23) (0, 0)) := by rw [alloc_heap, Array.getElem?_push_size]
  obtain ⟨M'', he, hst', hM⟩ := hst.result (w' := w.alloc (.cells #[.map (some b)] (ρ.t 23))) ⟨rfl, rfl, rfl⟩ (by rw [alloc_heap]; simp) (fun b' hb' => by rw [alloc_heap, Array.getElem?_push_lt hb', ← Array.getElem?_eq_getElem]) hnew (Nat.le_refl _)
  refine ⟨_, _, _, M'', env, rfl, ⟨rfl, rfl⟩, he, hst', ?_⟩
  refine .fn rfl rfl (fun i c x hi _ => by simp at hi) (fun i c x hi hx => ?_)
  cases i with
  | zero => simp at hi hx; subst hi; subst hx; exact .box h1 h2 (hM 0 _ (by simp))
  | succ i => simp at hi

/-- Numbers as rows. -/
def intRowZ (n : Int) : List P := [.int .i64 n]
theorem CallOK.sortedKeysI {α : Type} {k : TypeId} {ρk ρs ρm : Shelf.Ren} {c it so : FuncId} (Lk : SlLaysZI.n10 Pr ρk) (L : SlLaysZI.n6 Pr ρs) (Lm : SlLaysM.n5 Pr ρm)
    (hk : Pr.underlying k = some (.int .i64)) (K : Maps.Keyed Pr k) (hkt : ρk.t 26 = k) (hc : ρs.f 6 = c) (hso : ρs.f 9 = so) (hso' : ρm.f 5 = so) (hi : ρk.f 10 = it) (hen : Enters Pr c) (hens : Enters Pr so) (heni : Enters Pr it)
    {mid ck : Nat} {l : List α} {n : α → Int} {v : α → D} {bs : List Nat}
    (hmap : nth H mid = some (.map (l.map fun f => (P.int .i64 (n f), v f)) bs ck)) (hnd : (l.map n).Nodup) (hlen : ∀ f ∈ l, (Lit.int .i64 (n f)).wf = true) (hbs : bs.Nodup) (hlt : ∀ b ∈ bs, b < ck) (hsz : l.length ≤ 1000000) :
    CallOK Pr c [.fn (.func it) [] [.box mid]] H (fun r H' => r = .p (.lst (((l.map n).mergeSort leI).map intRowZ)) ∧ H' = H) := by
  subst hc; subst hi; subst hkt; subst hso
  refine CallOK.of_calls hen (fun g M env w vs hst hr => ?_)
  obtain ⟨fv, vs', rfl, hv, hr'⟩ := hr.cons_inv
  obtain rfl := hr'.nil_inv
  cases hv with
  | fn hlf hlc hf hcp =>
  rename_i vf vc
  have evf : vf = #[] := by simpa [eq_comm] using hlf
  subst evf
  obtain ⟨x0, rfl⟩ : ∃ x, vc = #[x] := by
    have : vc.size = 1 := by simpa using hlc.symm
    exact Array.size_eq_one_iff.1 this
  have hp := hcp 0 _ x0 rfl (by simp)
  cases hp with
  | box h1 h2 h3 =>
  rename_i blk a b
  have hmaxs : (1000000 : Nat) ≤ maxLen := by unfold maxLen; decide
  obtain ⟨bm, D0, hbm, hown, hperm, hsize⟩ := hst.sim.ownsInt hk K hmap hnd hlen hbs hlt (Nat.le_trans hsz hmaxs) (RdD.mp h1 h2)
  cases hbm
  have hcell := hst.sim.mem _ _ _ h3
  have hal : a < w.heap.size := cell_lt hcell
  have hseq : SeqGives Fence.wide 2 Pr (ρk.f 10) #[.pointer (some ⟨a, 0, none⟩)] encZ (fun ss => ss.Perm (intKeys D0)) (Maps.size D0) w :=
    AnyZI.keys_gives (ρ := ρk) Lk Fence.wide _ trivial rfl (by omega) a b _ D0 w hal hcell hown
  have hsorts : AnyZI.SortsIn Pr ρs Fence.wide (5 - 1) :=
    ⟨fun blk off cap ss W hH hblk hsz => by rw [← hso']; exact callsIn_wide.2 (AnyM.slices_Sort_int Lm blk off cap ss W hH hblk hsz),
     fun p cap W => by rw [← hso']; exact callsIn_wide.2 (AnyM.slices_Sort_int_none Lm p cap W)⟩
  have cS := callsIn_wide.1 (AnyZI.sorted_in L Fence.wide 5 trivial trivial trivial trivial rfl (by omega) hsorts hens (ρk.f 10) #[.pointer (some ⟨a, 0, none⟩)] trivial heni _ _ (by rw [hsize]; exact Nat.le_trans hsz hmaxs) (by rw [hsize]; omega) w hseq)
  refine cS.mono ?_
  rintro e w' ⟨v', ss, rfl, hS, hrow, hnil, hb⟩
  have hsort : ss.mergeSort leI = (l.map n).mergeSort leI := mergeSort_of_perm_i (hS.trans hperm)
  obtain ⟨hxl, hor⟩ := hrow
  rcases hor with ⟨rfl, hz⟩ | ⟨gb, cap, cur, rfl, hbase, hblk, hle, hcap, hcur, htake⟩
  · have hss : ss = [] := List.length_eq_zero_iff.1 hz
    subst hss
    have : (l.map n).mergeSort leI = [] := by rw [← hsort]; simp
    rw [this]
    exact ⟨_, _, H, M, env, rfl, ⟨rfl, rfl⟩, Ext.refl _ _, hst.older ⟨hb.os, hb.output, hb.tape⟩ hb.size (fun b hbb => hb.block b hbb), .p .lstNil⟩
  · obtain ⟨M'', he, hst', hM⟩ := hst.result ⟨hb.os, hb.output, hb.tape⟩ hb.size (fun b hbb => hb.block b hbb) hblk hbase
    refine ⟨_, _, H, M'', env, rfl, ⟨rfl, rfl⟩, he, hst', ?_⟩
    have hlen2 : (((l.map n).mergeSort leI).map intRowZ).length = ss.length := by rw [← hsort]; simp
    rw [← hlen2] at hle ⊢
    rw [Nat.mul_one] at htake
    change cur.toList.take ss.length = (ss.mergeSort leI).map encZ at htake
    rw [hsort] at htake
    have hat : ∀ (i : Nat) (s : Int), ((l.map n).mergeSort leI)[i]? = some s → cur[i]? = some (encZ s) := by
      intro i s hs
      have h8 : (cur.toList.take ss.length)[i]? = some (encZ s) := by rw [htake]; simp [hs]
      rw [List.getElem?_take] at h8
      split at h8
      · simpa using h8
      · cases h8
    have hshape : ∀ (i j : Nat) (row : List P) (p : P), (((l.map n).mergeSort leI).map intRowZ)[i]? = some row → row[j]? = some p → ∃ s, ((l.map n).mergeSort leI)[i]? = some s ∧ j = 0 ∧ p = .int .i64 s := by
      intro i j row p hi hj
      rw [List.getElem?_map] at hi
      cases hs : ((l.map n).mergeSort leI)[i]? with
      | none => rw [hs] at hi; cases hi
      | some s =>
        rw [hs] at hi; simp at hi; subst hi
        cases j with
        | zero => simp [intRowZ] at hj; subst hj; exact ⟨s, rfl, rfl, rfl⟩
        | succ j => simp [intRowZ] at hj
    refine .p (.lst (k := 1) (c := fun i _ => encZ (((l.map n).mergeSort leI)[i]?.getD 0)) (fun r hr => ?_) hle (fun i j row p hi hj => ?_) (fun i j row p hi hj => ?_))
    · obtain ⟨s, _, rfl⟩ := List.mem_map.1 hr; rfl
    · obtain ⟨s, hs, rfl, rfl⟩ := hshape i j row p hi hj
      rw [hs]
      refine hM _ _ ?_
      have := hat i s hs
      simpa using this
    · obtain ⟨s, hs, rfl, rfl⟩ := hshape i j row p hi hj
      rw [hs]
      exact .int
/-- Labels for a region of just so many operations. -/
theorem DrawG.len {nt : Nat} {al : List Oper} {T : Tm} {K : Tm → Heap → Prop} (labs : List Bool) (h : (Nat.beq labs.length al.length && drawB labs al) = true) (k : Onw (drawP Pr nt al K al labs 0 [] [] T H)) : DrawG Pr nt al T H K :=
  .mk labs (by rw [Bool.and_eq_true] at h; exact h.2) k
end Go.Ab
/-
  Arrays: a cell read or written at a place that is not known ahead.
-/
namespace Go.Ab
variable {Pr : Program} {H : Heap}
theorem putCells_one : ∀ {row : List D} {off : Nat} {d : D}, off < row.length → isOne d = true → putCells row off [d] = some (row.set off d)
  | [], _, _, h, _ => by simp at h
  | x :: row, 0, d, _, hd => by
    have : putCells row 0 [] = some row := by cases row <;> rfl
    simp only [putCells, hd, this, List.set_cons_zero]
  | x :: row, n + 1, d, h, hd => by
    simp only [putCells, putCells_one (row := row) (off := n) (d := d) (by simpa using h) hd, List.set_cons_succ]
theorem NeedRow.load {rs : List (List D)} {r off : Nat} {ti : TI} {row : List D} {d : D} {Kv : D → Heap → Prop} {Kc : FuncId → List D → Prop} (h1 : nth rs r = some row) (h2 : ti.tk.isAgg = false) (h3 : nth row off = some d) (k : Onw (Kv d H)) :
    NeedRow rs r fun row => (ovOfRow ti row off H).sat Kv Kc := by
  refine ⟨row, h1, ?_⟩
  simp only [ovOfRow, h2, h3, OV.sat]
  exact k
theorem NeedRow.store {rs : List (List D)} {id r off : Nat} {ti : TI} {row : List D} {x d : D} {Kv : D → Heap → Prop} {Kc : FuncId → List D → Prop} (h1 : nth rs r = some row) (hs : ti.size = 1) (hx : cellsOf x = some [d]) (hd : isOne d = true) (ho : off < row.length)
    (k : Onw (Kv undefD (setN H id (.rows (setN rs r (row.set off d)))))) :
    NeedRow rs r fun row => (storeCs ti id r off rs row H (cellsOf x)).sat Kv Kc := by
  refine ⟨row, h1, ?_⟩
  simp only [hx, storeCs, opStoreCells, hs, putCells_one ho hd, List.length_cons, List.length_nil, Nat.zero_add, beq_self_eq_true, cond_true, OV.sat]
  exact k
end Go.Ab
/-
  Contracts of the kit's over strings, told as calls.
-/
namespace Go.Ab
variable {Pr : Program} {H : Heap}
theorem CallOK.strStr {c : FuncId} {F : List UInt8 → List UInt8 → Int} (hen : Enters Pr c)
    (h : ∀ (a b : ByteArray) (w : World), Calls Pr c #[.string a, .string b] w fun e w' => e = .returned (.int .i64 (F a.data.toList b.data.toList)) ∧ w' = w) (a b : List UInt8) :
    CallOK Pr c [.p (.str a), .p (.str b)] H (fun r H' => r = i64 (F a b) ∧ H' = H) := by
  refine CallOK.of_calls hen (fun g M env w vs hst hr => ?_)
  obtain ⟨v, vs', rfl, hv, hr'⟩ := hr.cons_inv
  obtain ⟨v2, vs2, rfl, hv2, hr2⟩ := RdL.cons_inv hr'
  obtain rfl := hr2.nil_inv
  cases hv with | p hv =>
  cases hv2 with | p hv2 =>
  cases hv with | str e1 =>
  cases hv2 with | str e2 =>
  refine (h _ _ w).mono ?_
  rintro e w' ⟨rfl, rfl⟩
  refine ⟨_, _, H, M, env, rfl, ⟨rfl, rfl⟩, Ext.refl _ _, hst, ?_⟩
  rw [e1, e2]
  exact .p .int
theorem CallOK.strByte {c : FuncId} {F : List UInt8 → Int → Int} (hen : Enters Pr c)
    (h : ∀ (a : ByteArray) (n : Int) (w : World), Calls Pr c #[.string a, .int .u8 n] w fun e w' => e = .returned (.int .i64 (F a.data.toList n)) ∧ w' = w) (a : List UInt8) (n : Int) :
    CallOK Pr c [.p (.str a), .p (.int .u8 n)] H (fun r H' => r = i64 (F a n) ∧ H' = H) := by
  refine CallOK.of_calls hen (fun g M env w vs hst hr => ?_)
  obtain ⟨v, vs', rfl, hv, hr'⟩ := hr.cons_inv
  obtain ⟨v2, vs2, rfl, hv2, hr2⟩ := RdL.cons_inv hr'
  obtain rfl := hr2.nil_inv
  cases hv with | p hv =>
  cases hv2 with | p hv2 =>
  cases hv with | str e1 =>
  cases hv2 with | int =>
  refine (h _ _ w).mono ?_
  rintro e w' ⟨rfl, rfl⟩
  refine ⟨_, _, H, M, env, rfl, ⟨rfl, rfl⟩, Ext.refl _ _, hst, ?_⟩
  rw [e1]
  exact .p .int
end Go.Ab
/-
  A slice that lies in a cell is told, never to be written again.
-/
namespace Go.Ab
variable {Pr : Program} {M M' : Mem} {env : List Blk} {H : Heap} {w w' : World} {g : G}
theorem SimH.setRows {i : Nat} {rs rs' : List (List D)} (h : SimH M env H w) (hi : H[i]? = some (.rows rs)) (ho : ∀ blk, env[i]? = some blk → ObjR M env w blk (.rows rs')) : SimH M env (H.set i (.rows rs')) w := by
  have hil : i < H.length := get_lt hi
  have hget : ∀ {j : Nat} {o : Obj}, (H.set i (.rows rs'))[j]? = some o → (j = i ∧ o = .rows rs') ∨ (j ≠ i ∧ H[j]? = some o) := fun {j o} hj => by
    by_cases e : j = i
    · subst e
      rw [List.getElem?_set_self hil] at hj
      cases hj; exact .inl ⟨rfl, rfl⟩
    · rw [List.getElem?_set_ne (fun e' => e e'.symm)] at hj
      exact .inr ⟨e, hj⟩
  have hlive : ∀ {j : Nat} {o : Obj}, (H.set i (.rows rs'))[j]? = some o → ∃ o', H[j]? = some o' ∧ o'.live = o.live := fun {j o} hj => by
    rcases hget hj with ⟨rfl, rfl⟩ | ⟨_, h1⟩
    · exact ⟨_, hi, rfl⟩
    · exact ⟨_, h1, rfl⟩
  refine ⟨by rw [List.length_set]; exact h.len, fun j blk o h1 h2 => ?_, fun a b ba bb oa ob bn h1 h2 h3 h4 l1 l2 e1 e2 => ?_, h.mem, fun j blk o b m h1 h2 h3 h4 => ?_, h.lt⟩
  · rcases hget h2 with ⟨rfl, rfl⟩ | ⟨_, h3⟩
    · exact ho blk h1
    · exact h.obj j blk o h1 h3
  · obtain ⟨oa', q1, q2⟩ := hlive h3
    obtain ⟨ob', q3, q4⟩ := hlive h4
    exact h.dist a b ba bb oa' ob' bn h1 h2 q1 q3 (by rw [q2]; exact l1) (by rw [q4]; exact l2) e1 e2
  · obtain ⟨o', q1, q2⟩ := hlive h2
    exact h.disj j blk o' b m h1 q1 (by rw [q2]; exact h3) h4
theorem StH.freezeCell {i m j id k st len : Nat} {cap : Option Nat} {rs rs2 : List (List D)} {row : List D} {ps : List (List P)} (h : StH g H M env w) (hi : nth H i = some (.rows rs)) (hm : nth rs m = some row) (hj : nth row j = some (.own id k st len cap))
    (hne : i ≠ id) (hH : nth H id = some (.rows rs2)) (hps : (rs2.drop st).take len = ps.map (·.map D.p)) (hl : len = ps.length) (hk : ∀ r ∈ ps, r.length = k) :
    ∃ M'', Ext M env M'' env ∧ StH g (setN (setN H id .gone) i (.rows (setN rs m (setN row j (.p (.lst ps)))))) M'' env w := by
  rw [nth_eq] at hi hm hj
  have hil : i < env.length := by rw [h.sim.len]; exact get_lt hi
  obtain ⟨blk, hblk⟩ : ∃ blk, env[i]? = some blk := ⟨_, List.getElem?_eq_getElem hil⟩
  have hobj := h.sim.obj i blk _ hblk hi
  simp only [ObjR] at hobj
  cases hb : blk.b with
  | none =>
    rw [hb] at hobj
    simp only [] at hobj
    subst hobj; simp at hm
  | some b =>
    rw [hb] at hobj
    simp only [] at hobj
    obtain ⟨c, e, fro, c1, c2, c3, c4, c5, c6⟩ := hobj
    obtain ⟨x, hx, hrd⟩ := c5 m j row _ hm hj
    obtain ⟨M'', he, hst, hv⟩ := h.freezeAt hH hrd hps hl hk
    refine ⟨M'', he, ⟨hst.ext, ?_, hst.frame⟩⟩
    rw [setN_eq, setN_eq, setN_eq, setN_eq]
    have hi2 : (H.set id .gone)[i]? = some (.rows rs) := by rw [List.getElem?_set_ne (fun e => hne e.symm)]; exact hi
    refine hst.sim.setRows hi2 (fun blk' hblk' => ?_)
    rw [hblk] at hblk'; cases hblk'
    have hobj2 := hst.sim.obj i blk _ hblk hi2
    simp only [ObjR, hb] at hobj2 ⊢
    obtain ⟨c', e', fro', d1, d2, d3, d4, d5, d6⟩ := hobj2
    rw [c1] at d1; cases d1
    refine ⟨c, e, fro, c1, c2, by rw [List.length_set]; exact c3, fun r hr => ?_, fun m' j' row' d' h1 h2 => ?_, c6⟩
    · rcases List.mem_or_eq_of_mem_set hr with q | q
      · exact c4 r q
      · rw [q, List.length_set]; exact c4 row (List.mem_of_getElem? hm)
    · by_cases em : m' = m
      · subst em
        rw [List.getElem?_set_self (get_lt hm)] at h1
        cases h1
        by_cases ej : j' = j
        · subst ej
          rw [List.getElem?_set_self (get_lt hj)] at h2
          cases h2
          exact ⟨x, hx, hv⟩
        · rw [List.getElem?_set_ne (fun e => ej e.symm)] at h2
          exact d5 m' j' row d' hm h2
      · rw [List.getElem?_set_ne (fun e => em e.symm)] at h1
        exact d5 m' j' row' d' h1 h2
/-- A slice in a cell is told, never to be written again. -/
theorem Run.frzCell {f : FuncId} {nt m : Nat} {kk : List CI} {T : Tm} {R : D → Heap → Prop} (i m0 j : Nat) {id k st len : Nat} {cap : Option Nat} {rs rs2 : List (List D)} {row : List D} {ps : List (List P)} (hi : nth H i = some (.rows rs)) (hm : nth rs m0 = some row) (hj : nth row j = some (.own id k st len cap))
    (hne : i ≠ id) (hH : nth H id = some (.rows rs2)) (hps : (rs2.drop st).take len = ps.map (·.map D.p)) (hl : len = ps.length) (hk : ∀ r ∈ ps, r.length = k)
    (h : Run Pr f nt m kk T (setN (setN H id .gone) i (.rows (setN rs m0 (setN row j (.p (.lst ps)))))) R) : Run Pr f nt m kk T H R := by
  intro g M env a w b its cs hm' hf hkd hc hst
  obtain ⟨M'', he, hst'⟩ := hst.h.freezeCell hi hm hj hne hH hps hl hk
  exact h g M'' env a w b its cs hm' hf hkd hc ⟨hst', fun i d hi => let ⟨x, hx, hr⟩ := hst.tmps i d hi; ⟨x, hx, hr.mono he⟩, hst.size, hst.defers⟩
end Go.Ab
/-
  Arguments of slices within slices, of structs, opened.
-/
namespace Go.Ab
open Go.ChangeShapes Go.WideShapes Go.Deep
variable {Pr : Program} {H : Type} {enc : TypeId × Value → H} {W : World}

/-- Cells, told one by one. -/
def RdPs (M : Mem) (ps : List P) (cs : List Value) : Prop := ps.length = cs.length ∧ ∀ (i : Nat) (p : P) (x : Value), ps[i]? = some p → cs[i]? = some x → RdP M p x
theorem RdPs.one {M : Mem} {p : P} {x : Value} (h : RdP M p x) : RdPs M [p] [x] := ⟨rfl, fun i q y h1 h2 => by
  cases i with
  | zero => simp at h1 h2; subst h1; subst h2; exact h
  | succ i => simp at h1⟩
theorem RdPs.app {M : Mem} {ps qs : List P} {cs ds : List Value} (h : RdPs M ps cs) (h' : RdPs M qs ds) : RdPs M (ps ++ qs) (cs ++ ds) := by
  refine ⟨by rw [List.length_append, List.length_append, h.1, h'.1], fun i p x h1 h2 => ?_⟩
  rcases Nat.lt_or_ge i ps.length with hi | hi
  · rw [List.getElem?_append_left hi] at h1
    rw [List.getElem?_append_left (by rw [← h.1]; exact hi)] at h2
    exact h.2 i p x h1 h2
  · rw [List.getElem?_append_right hi] at h1
    rw [List.getElem?_append_right (by rw [← h.1]; exact hi), ← h.1] at h2
    exact h'.2 _ p x h1 h2
theorem RdPs.agg {M : Mem} {ps : List P} {cs : Array Value} (h : RdPs M ps cs.toList) : RdP M (.agg ps) (.agg cs) :=
  .agg (by rw [h.1]; simp) (fun i c x h1 h2 => h.2 i c x h1 (by simpa using h2))
/-- A struct's fields, each read by itself. -/
theorem open_structL {fs : Array Field} {t : TypeId} (ht : Pr.underlying t = some (.struct fs)) {fuel : Nat} {cs : List Value} {x : DataW H × List MemPlace} (h : DataW.trod enc Pr W 0 (fun _ => true) true fuel t cs = some x) :
    cs.length = Pr.cellsOf t ∧ ∀ (i : Nat) (f : Field), fs[i]? = some f → ∃ n y, DataW.trod enc Pr W 0 (fun _ => true) true n f.type ((cs.drop f.offset).take (Pr.cellsOf f.type)) = some y := by
  obtain ⟨xs, n, rfl, _, h1, h2, h3⟩ := DataW.trod_struct ht h
  refine ⟨h1, fun i f hf => ?_⟩
  have hi : i < fs.size := by
    rcases Nat.lt_or_ge i fs.size with q | q
    · exact q
    · rw [Array.getElem?_eq_none q] at hf; cases hf
  refine ⟨n, xs[i]'(by rw [h2]; exact hi), ?_⟩
  rw [h3 i f hf, List.getElem?_eq_getElem]
/-- A slice whose elements can be told. -/
theorem open_sliceL {α : Type} [Inhabited α] {row : α → List P} {Good : α → Prop} {t e : TypeId} {k : Nat} (ht : Pr.underlying t = some (.slice e)) (hk : Pr.cellsOf e = k) (hk1 : 1 ≤ k) (hrow : ∀ a, (row a).length = k)
    (he : ∀ (fuel : Nat) (cs : List Value) (x : DataW H × List MemPlace), DataW.trod enc Pr W 0 (fun _ => true) true fuel e cs = some x → ∃ a, Good a ∧ RdPs (memOf W) (row a) cs)
    {fuel : Nat} {cs : List Value} {x : DataW H × List MemPlace} (h : DataW.trod enc Pr W 0 (fun _ => true) true fuel t cs = some x) :
    ∃ (l : List α) (v : Value), cs = [v] ∧ l.length ≤ 9223372036854775807 ∧ (∀ a ∈ l, Good a) ∧ RdP (memOf W) (.lst (l.map row)) v := by
  rcases open_slice ht h with ⟨rfl, _⟩ | ⟨a, len, cap, m, n, D, Pl, rfl, _, hl, hm, hmm, _, hx⟩
  · exact ⟨[], _, rfl, by simp, by simp, .lstNil⟩
  · simp only [if_true] at hmm
    subst hmm
    rw [hk] at hx
    obtain ⟨A, hA⟩ := choose_lt (α := α × List Value) (n := m) (p := fun i y => Good y.1 ∧ W.cells? 0 (a.add (i * k)) k = some y.2 ∧ RdPs (memOf W) (row y.1) y.2) (fun i hi => by
      obtain ⟨cs', h1, h2⟩ := hx i hi
      obtain ⟨y, g1, g2⟩ := he _ _ _ h2
      exact ⟨(y, cs'), g1, h1, g2⟩)
    refine ⟨(List.range len).map fun i => (A i).1, _, rfl, ?_, fun y hy => ?_, ?_⟩
    · rw [List.length_map, List.length_range]
      unfold maxLen at hm
      omega
    · obtain ⟨i, hi, rfl⟩ := List.mem_map.1 hy
      have := List.mem_range.1 hi
      exact (hA i (by omega)).1
    · rcases Nat.eq_zero_or_pos len with h0 | h0
      · subst h0
        exact .lstE
      · have hspot : a.spot = none := by
          obtain ⟨_, q, _⟩ := hA 0 (by omega)
          obtain ⟨_, q1, q2⟩ := World.cells?_some q
          have q3 := q2 0 (by omega)
          have hlt : 0 < (A 0).2.length := by omega
          rw [List.getElem?_eq_getElem hlt] at q3
          rw [Nat.zero_mul] at q3
          have e1 : (a.add 0).add 0 = a := rfl
          rw [e1] at q3
          unfold World.cell? at q3
          split at q3
          · cases hs : a.spot with
            | none => rfl
            | some s => rw [hs] at q3; simp at q3
          · cases q3
        obtain ⟨blk, off, spot⟩ := a
        simp only at hspot
        subst hspot
        have hrows : ∀ (i : Nat) (r : List P), (((List.range len).map fun i => (A i).1).map row)[i]? = some r → i < len ∧ r = row (A i).1 := fun i r hr => by
          have hi := get_lt hr
          simp at hi
          simp [hi] at hr
          exact ⟨hi, hr.symm⟩
        have hlen : (((List.range len).map fun i => (A i).1).map row).length = len := by simp
        have := RdP.lst (M := memOf W) (rows := ((List.range len).map fun i => (A i).1).map row) (k := k) (b := blk) (o := off) (cap := m) (c := fun i j => (A i).2.getD j undef)
          (fun r hr => by obtain ⟨y, _, rfl⟩ := List.mem_map.1 hr; exact hrow y) (by rw [hlen]; exact hl) (fun i j r p hi hj => by
            obtain ⟨hil, rfl⟩ := hrows i r hi
            obtain ⟨_, q1, q2⟩ := hA i (by omega)
            obtain ⟨_, q3, q4⟩ := World.cells?_some q1
            have hjk : j < k := by have := get_lt hj; rw [hrow] at this; exact this
            have q5 := q4 j hjk
            rw [Go.Deep.add_add, add_addr] at q5
            unfold memOf
            rw [Nat.add_assoc, q5, List.getD_eq_getElem?_getD, List.getElem?_eq_getElem (by omega)]
            rfl) (fun i j r p hi hj => by
            obtain ⟨hil, rfl⟩ := hrows i r hi
            obtain ⟨_, q1, q2⟩ := hA i (by omega)
            obtain ⟨_, q3, _⟩ := World.cells?_some q1
            have hjk : j < k := by have := get_lt hj; rw [hrow] at this; exact this
            refine q2.2 j p _ hj ?_
            rw [List.getD_eq_getElem?_getD, List.getElem?_eq_getElem (by omega)]
            rfl)
        rw [hlen] at this
        exact this
end Go.Ab
/-
  Cells told otherwise.
-/
namespace Go.Ab
variable {Pr : Program} {M M' : Mem} {env : List Blk} {H : Heap} {w w' : World} {g : G}
theorem CallOK.frzCell {c : FuncId} {ds : List D} {R : D → Heap → Prop} (i m0 j : Nat) {id k st len : Nat} {cap : Option Nat} {rs rs2 : List (List D)} {row : List D} {ps : List (List P)} (hi : nth H i = some (.rows rs)) (hm : nth rs m0 = some row) (hj : nth row j = some (.own id k st len cap))
    (hne : i ≠ id) (hH : nth H id = some (.rows rs2)) (hps : (rs2.drop st).take len = ps.map (·.map D.p)) (hl : len = ps.length) (hk : ∀ r ∈ ps, r.length = k)
    (h : CallOK Pr c ds (setN (setN H id .gone) i (.rows (setN rs m0 (setN row j (.p (.lst ps)))))) R) : CallOK Pr c ds H R := by
  refine ⟨h.1, fun g M env w vs fr cs hst hr => ?_⟩
  obtain ⟨M'', he, hst'⟩ := hst.freezeCell hi hm hj hne hH hps hl hk
  obtain ⟨r, H', v, w', M', env', q1, q2, q3⟩ := h.2 g M'' env w vs fr cs hst' (hr.mono he)
  exact ⟨r, H', v, w', M', env', q1, he.trans q2, q3⟩
theorem StH.tellNil {i m j : Nat} {rs : List (List D)} {row : List D} (h : StH g H M env w) (hi : nth H i = some (.rows rs)) (hm : nth rs m = some row) (hj : nth row j = some (.p .nil)) : StH g (setN H i (.rows (setN rs m (setN row j (.p (.lst [])))))) M env w := by
  rw [nth_eq] at hi hm hj
  rw [setN_eq, setN_eq, setN_eq]
  refine ⟨h.ext, h.sim.setRows hi (fun blk hblk => ?_), h.frame⟩
  have hobj := h.sim.obj i blk _ hblk hi
  simp only [ObjR] at hobj ⊢
  cases hb : blk.b with
  | none =>
    rw [hb] at hobj
    simp only [] at hobj
    subst hobj; simp at hm
  | some b =>
    rw [hb] at hobj
    simp only [] at hobj ⊢
    obtain ⟨c, e, fro, c1, c2, c3, c4, c5, c6⟩ := hobj
    refine ⟨c, e, fro, c1, c2, by rw [List.length_set]; exact c3, fun r hr => ?_, fun m' j' row' d' h1 h2 => ?_, c6⟩
    · rcases List.mem_or_eq_of_mem_set hr with q | q
      · exact c4 r q
      · rw [q, List.length_set]; exact c4 row (List.mem_of_getElem? hm)
    · by_cases em : m' = m
      · subst em
        rw [List.getElem?_set_self (get_lt hm)] at h1
        cases h1
        by_cases ej : j' = j
        · subst ej
          rw [List.getElem?_set_self (get_lt hj)] at h2
          cases h2
          obtain ⟨x, hx, hrd⟩ := c5 m' j' row _ hm hj
          exact ⟨x, hx, RdD.nil_lst hrd⟩
        · rw [List.getElem?_set_ne (fun e => ej e.symm)] at h2
          exact c5 m' j' row d' hm h2
      · rw [List.getElem?_set_ne (fun e => em e.symm)] at h1
        exact c5 m' j' row' d' h1 h2
theorem Run.tellNil {f : FuncId} {nt m : Nat} {kk : List CI} {T : Tm} {R : D → Heap → Prop} (i m0 j : Nat) {rs : List (List D)} {row : List D} (hi : nth H i = some (.rows rs)) (hm : nth rs m0 = some row) (hj : nth row j = some (.p .nil))
    (h : Run Pr f nt m kk T (setN H i (.rows (setN rs m0 (setN row j (.p (.lst [])))))) R) : Run Pr f nt m kk T H R := by
  intro g M env a w b its cs hm' hf hkd hc hst
  exact h g M env a w b its cs hm' hf hkd hc ⟨hst.h.tellNil hi hm hj, hst.tmps, hst.size, hst.defers⟩
end Go.Ab
/-
  A nil slice in a cell, told as one of its own.
-/
namespace Go.Ab
variable {Pr : Program} {M M' : Mem} {env : List Blk} {H : Heap} {w w' : World} {g : G}
theorem StH.virtCell {i m j kk : Nat} {rs : List (List D)} {row : List D} (h : StH g H M env w) (hi : nth H i = some (.rows rs)) (hm : nth rs m = some row) (hj : nth row j = some (.p .nil)) :
    StH g (setN H i (.rows (setN rs m (setN row j (.own H.length kk 0 0 none)))) ++ [.rows []]) M (env ++ [⟨none, 0, kk, 0⟩]) w := by
  have hv : StH g (H ++ [.rows []]) M (env ++ [⟨none, 0, kk, 0⟩]) w := h.virt rfl
  have hlen := h.sim.len
  have hil : i < H.length := nth_lt hi
  have e : setN H i (.rows (setN rs m (setN row j (.own H.length kk 0 0 none)))) ++ [.rows []] = setN (H ++ [.rows []]) i (.rows (setN rs m (setN row j (.own H.length kk 0 0 none)))) := by
    exact (setN_app hil).symm
  rw [e]
  have hi2 : nth (H ++ [.rows []]) i = some (.rows rs) := nth_app hi
  rw [nth_eq] at hi hi2 hm hj
  rw [setN_eq, setN_eq, setN_eq]
  refine ⟨hv.ext, hv.sim.setRows hi2 (fun blk hblk => ?_), hv.frame⟩
  have hobj := hv.sim.obj i blk _ hblk hi2
  simp only [ObjR] at hobj ⊢
  cases hb : blk.b with
  | none =>
    rw [hb] at hobj
    simp only [] at hobj
    subst hobj; simp at hm
  | some b =>
    rw [hb] at hobj
    simp only [] at hobj ⊢
    obtain ⟨c, e, fro, c1, c2, c3, c4, c5, c6⟩ := hobj
    refine ⟨c, e, fro, c1, c2, by rw [List.length_set]; exact c3, fun r hr => ?_, fun m' j' row' d' h1 h2 => ?_, c6⟩
    · rcases List.mem_or_eq_of_mem_set hr with q | q
      · exact c4 r q
      · rw [q, List.length_set]; exact c4 row (List.mem_of_getElem? hm)
    · by_cases em : m' = m
      · subst em
        rw [List.getElem?_set_self (get_lt hm)] at h1
        cases h1
        by_cases ej : j' = j
        · subst ej
          rw [List.getElem?_set_self (get_lt hj)] at h2
          cases h2
          obtain ⟨x, hx, hrd⟩ := c5 m' j' row _ hm hj
          refine ⟨x, hx, ?_⟩
          cases hrd with
          | p hr => cases hr with
            | nil => exact .ownNil (blk := ⟨none, 0, kk, 0⟩) (by rw [← hlen]; simp) rfl rfl (fun c' h => by cases h)
        · rw [List.getElem?_set_ne (fun e => ej e.symm)] at h2
          exact c5 m' j' row d' hm h2
      · rw [List.getElem?_set_ne (fun e => em e.symm)] at h1
        exact c5 m' j' row' d' h1 h2
theorem Run.virtCell {f : FuncId} {nt m : Nat} {kk : List CI} {T : Tm} {R : D → Heap → Prop} (k i m0 j : Nat) {rs : List (List D)} {row : List D} (hi : nth H i = some (.rows rs)) (hm : nth rs m0 = some row) (hj : nth row j = some (.p .nil))
    (h : Run Pr f nt m kk T (setN H i (.rows (setN rs m0 (setN row j (.own H.length k 0 0 none)))) ++ [.rows []]) R) : Run Pr f nt m kk T H R := by
  intro g M env a w b its cs hm' hf hkd hc hst
  exact h g M _ a w b its cs hm' hf hkd hc ⟨hst.h.virtCell hi hm hj, fun t d ht => by obtain ⟨x, hx, hr⟩ := hst.tmps t d ht; exact ⟨x, hx, hr.mono (Ext.push _ _ _)⟩, hst.size, hst.defers⟩
theorem CallOK.virtCell {c : FuncId} {ds : List D} {R : D → Heap → Prop} (k i m0 j : Nat) {rs : List (List D)} {row : List D} (hi : nth H i = some (.rows rs)) (hm : nth rs m0 = some row) (hj : nth row j = some (.p .nil))
    (h : CallOK Pr c ds (setN H i (.rows (setN rs m0 (setN row j (.own H.length k 0 0 none)))) ++ [.rows []]) R) : CallOK Pr c ds H R := by
  refine ⟨h.1, fun g M env w vs fr cs hst hr => ?_⟩
  have he := Ext.push M env [⟨none, 0, k, 0⟩]
  obtain ⟨r, H', v, w', M', env', q1, q2, q3⟩ := h.2 g M _ w vs fr cs (hst.virtCell hi hm hj) (hr.mono he)
  exact ⟨r, H', v, w', M', env', q1, he.trans q2, q3⟩
/-- Labels for a region of so many operations. -/
theorem DrawG.mkN {nt : Nat} {al : List Oper} {T : Tm} {K : Tm → Heap → Prop} (n : Nat) (labs : List Bool) (h : (al.length == n && drawB labs al) = true) (k : Onw (drawP Pr nt al K al labs 0 [] [] T H)) : DrawG Pr nt al T H K :=
  DrawG.mk labs (by rw [Bool.and_eq_true] at h; exact h.2) k
end Go.Ab
