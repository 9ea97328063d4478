/- What functions of the receiver, of labels, rows, batches, and of the laws over them, do. Conditions: those that each theorem names. -/
import Derived.Test.YtjlhkbikconboaaQ14
set_option linter.unusedVariables false
set_option linter.unusedSimpArgs false
namespace Go.Proofs.Ytjlhkbikconboaa
open Go.Ab
set_option maxRecDepth 100000
set_option maxHeartbeats 1000000
attribute [local irreducible] Run CallOK DetCall Br PreP BothP AncOr Onw NeedRows NeedMap NeedRow NeedLen NilP NeedIter RoundP EntryP EqP OptP NewP NewSlice NewMade AppTo DrawG anc drawB
/-- The mark, or none yet. -/
def MarkIs (keys : List Int) (low m : Int) : Prop := (low = 0 ∧ m = 0) ∨ (1 ≤ low ∧ IsMark keys low m)
theorem MarkIs.eq {keys : List Int} {low m m' : Int} (h : MarkIs keys low m) (h' : MarkIs keys low m') : m = m' := by
  rcases h with ⟨a1, a2⟩ | ⟨a1, a2⟩ <;> rcases h' with ⟨b1, b2⟩ | ⟨b1, b2⟩
  · omega
  · omega
  · omega
  · exact a2.eq b2
theorem c11g {H : Heap} {r mid : Nat} {low : Int} {l : List Bt} {bs : List Nat} {ck : Nat} (h : RcG H r mid low l bs ck) (hlow : 0 ≤ low) (hlow2 : low ≤ 9223372036854775807) :
    CallOK Try.prog 11 [.ptr r 0 0] H (fun r H' => (∃ m, r = i64 m ∧ MarkIs (l.map (·.seq)) low m) ∧ H' = H) := by
  rcases Int.lt_or_le 0 low with q | q
  · exact (CallOK.trim (Q := fun r => ∃ m, r = i64 m ∧ MarkIs (l.map (·.seq)) low m) ((CallOK.of_spec (s11g H r mid low l bs ck h (by omega) hlow2)).mono (fun _ _ hr => ⟨hr.2, by obtain ⟨⟨m, rfl, _⟩, _⟩ := hr; rfl, by obtain ⟨⟨m, e, hm⟩, _⟩ := hr; exact ⟨m, e, .inr ⟨by omega, hm⟩⟩⟩))).mono (fun _ _ hr => ⟨hr.2.2, hr.1⟩)
  · obtain rfl : low = 0 := by omega
    exact (CallOK.trim (Q := fun r => ∃ m, r = i64 m ∧ MarkIs (l.map (·.seq)) 0 m) ((CallOK.of_spec (s11gz H r mid l bs ck h)).mono (fun _ _ hr => ⟨hr.2, by rw [hr.1]; rfl, ⟨0, hr.1, .inl ⟨rfl, rfl⟩⟩⟩))).mono (fun _ _ hr => ⟨hr.2.2, hr.1⟩)
theorem s8g (H : Heap) : CallOK Try.prog 8 [] H (fun res H' => ∃ r mid, res = .ptr r 0 0 ∧ RcG H' r mid 0 [] [] 0 ∧ H.length ≤ r ∧ H.length ≤ mid ∧ ∃ x, H' = H ++ x) := by
  refine (CallOK.of_spec (s8 H)).mono (fun res H' hr => ?_)
  obtain ⟨r, mid, e, h, h1, h2, h3⟩ := hr
  exact ⟨r, mid, e, ⟨h.row, h.map, h.ok, h.ne, by simp, by simp, by simp⟩, h1, h2, h3⟩
/-- A letter: a batch, the least number. -/
def letterP (b : Bt) (lo : Int) : P := .agg [.int .i64 b.seq, .int .i64 b.t, .str b.g, .lst (b.rows.map rowRow), .int .i64 lo]
def letterOK (b : Bt) (lo : Int) : Bool := batchOK b && (decide (1 ≤ lo) && decide (lo ≤ b.seq))
theorem s9gbad (H : Heap) (r : Nat) (b : Bt) (hb : FitsB b) (lo : Int) (hno : letterOK b lo = false) :
    Ab.Spec Try.prog 9 [.ptr r 0 0, .p (letterP b lo)] H (fun res H' => res = .tup [i64 0, i64 12] ∧ ∃ x, H' = H ++ x) := by
  refine Ab.Spec.walk hm Try.func9 (by kernel_rfl) 100 ?_
  repeat' (first
    | ((with_reducible apply Onw.mk); conv => whnf)
    | (with_reducible first | apply Br.tt | apply Br.ff | apply Br.no)
    | ((with_reducible apply Br.t); · assumption)
    | ((with_reducible apply Br.f); · assumption)
    | ((with_reducible apply Br.dt); · exact ab_known)
    | ((with_reducible apply Br.df); · exact ab_known)
    | (with_reducible first | refine Br.dec (fun hc => ?_) (fun hc => ?_) | refine Br.mk (fun hc => ?_) (fun hc => ?_))
    | (refine CallOK.go (c19g _ b hb) (fun r2 H2 hr2 => ?_); obtain ⟨rfl, he2⟩ := hr2; rw [he2]; clear he2 H2)
    | (refine DetCall.go (c19g _ b hb) ?_)
    | ((with_reducible first | apply NeedRows.mk | apply NeedMap.mk | apply NeedIter.mk); · exact ab_look)
    | ((with_reducible apply NeedLen.mk); · first | assumption | rfl)
    | ((with_reducible apply NeedRow.mk); · exact ab_lookR)
    | ((with_reducible apply DrawG.mk (List.replicate 60 false)); · decide +kernel)
    | (with_reducible first | refine NewP.mk (fun id hid => ?_) | refine NilP.mk (fun e he => ?_))
    | (with_reducible first | exact trivial | exact And.intro rfl rfl)
    | ((with_reducible apply PreP.mk); · exact ab_asked)
    | refine Exists.intro _ (PreP.mk (bytesOf_lst _) ?_)
    | refine PreP.mk (lenD_lst _) ?_
    | (with_reducible first | refine PreP.mk ?_ ?_ | refine BothP.mk ?_ ?_)
    | ((with_reducible apply AncOr.anc); · decide +kernel)
    | with_reducible refine AncOr.go ?_)
  all_goals first
    | exact ⟨rfl, _, rfl⟩
    | (exfalso; unfold letterOK at hno; simp_all <;> omega)
theorem s9gin (H : Heap) (r mid : Nat) (low : Int) (l : List Bt) (bs : List Nat) (ck : Nat) (h : RcG H r mid low l bs ck) (b : Bt) (hb : FitsB b) (lo : Int) (hok : letterOK b lo = true) (h6 : b.seq ≤ 9223372036854775807) (h7 : 0 ≤ low) (h8 : low ≤ 9223372036854775807) (hin : b.seq ∈ l.map (·.seq)) :
    Ab.Spec Try.prog 9 [.ptr r 0 0, .p (letterP b lo)] H (fun res H' => ∃ m, res = .tup [i64 m, i64 0] ∧ MarkIs (l.map (·.seq)) (if low < lo then lo else low) m ∧
      RcG H' r mid (if low < lo then lo else low) l bs ck ∧ Goes H [r, mid] H' [r, mid]) := by
  have hno : letterOK b lo = true := hok
  unfold letterOK at hno
  simp only [Bool.and_eq_true, decide_eq_true_eq] at hno
  obtain ⟨hbo, h4, h5⟩ := hno
  have hgood := GoodB.of_ok hb hbo
  have hq : 0 < b.seq := by omega
  have h4' : ¬ lo < 1 := by omega
  have h5' : ¬ b.seq < lo := by omega
  have hr1 := h.row
  have hr2 := h.map
  have hne := h.ne
  have hlt1 := nth_lt hr1
  have hlt2 := nth_lt hr2
  have hpk : ∀ n : Int, keysOk (.int .i64) (l.map entB) ∧ keyOk (.int .i64) (.int .i64 n) = true := fun n => ⟨keysOk_entB l, rfl⟩
  obtain ⟨b0, hb0, hbs0, hlk⟩ := lookB_in hin
  refine Ab.Spec.walk hm Try.func9 (by kernel_rfl) 100 ?_
  repeat' (first
    | ((with_reducible apply Onw.mk); conv => whnf)
    | (with_reducible first | apply Br.tt | apply Br.ff | apply Br.no)
    | ((with_reducible apply Br.t); · assumption)
    | ((with_reducible apply Br.f); · assumption)
    | ((with_reducible apply Br.dt); · exact ab_known)
    | ((with_reducible apply Br.df); · exact ab_known)
    | (with_reducible first | refine Br.dec (fun hc => ?_) (fun hc => ?_) | refine Br.mk (fun hc => ?_) (fun hc => ?_))
    | ((with_reducible apply DrawG.len [false, false, false, false, false, false, false, false, false, false, false, true, true, false]); · decide +kernel)
    | ((with_reducible apply DrawG.len [false, false, false, false, false, false, false, false, false, false, true]); · decide +kernel)
    | (refine PreP.mk (hpk _) ?_)
    | (refine OptP.some hlk ?_)
    | (refine CallOK.go (c19g _ b hb) (fun r2 H2 hr2 => ?_); obtain ⟨rfl, he2⟩ := hr2; rw [he2]; clear he2 H2)
    | (refine DetCall.go (c20g _ b hgood) ?_)
    | ((with_reducible first | apply NeedRows.mk | apply NeedMap.mk | apply NeedIter.mk); · exact ab_look)
    | ((with_reducible apply NeedLen.mk); · first | assumption | rfl)
    | ((with_reducible apply NeedRow.mk); · exact ab_lookR)
    | ((with_reducible apply DrawG.mk (List.replicate 60 false)); · decide +kernel)
    | (with_reducible first | refine NewP.mk (fun id hid => ?_) | refine NilP.mk (fun e he => ?_))
    | (with_reducible first | exact trivial | exact And.intro rfl rfl)
    | ((with_reducible apply PreP.mk); · exact ab_asked)
    | refine Exists.intro _ (PreP.mk (bytesOf_lst _) ?_)
    | refine PreP.mk (lenD_lst _) ?_
    | (with_reducible first | refine PreP.mk ?_ ?_ | refine BothP.mk ?_ ?_)
    | ((with_reducible apply AncOr.anc); · decide +kernel)
    | with_reducible refine AncOr.go ?_)
  rename_i id0 hid0
  rw [List.length_append] at hid
  simp only [List.length_cons, List.length_nil] at hid
  refine CallOK.go (c11g (low := if low < lo then lo else low) (l := l) (bs := bs) (ck := ck) (mid := mid) ?_ ?_ ?_) (fun r2 H2 hr => ?_)
  · exact ⟨nth_setN_same (x := .rows [[.mp mid, i64 low]]) ab_look, ab_look, h.ok, hne, h.keys, h.good, h.pos⟩
  · split <;> omega
  · split <;> omega
  obtain ⟨⟨m, rfl, hm2⟩, he2⟩ := hr
  rw [he2]; clear he2 H2
  repeat' (first
    | ((with_reducible apply Onw.mk); conv => whnf)
    | (with_reducible first | apply Br.tt | apply Br.ff | apply Br.no)
    | ((with_reducible apply Br.t); · assumption)
    | ((with_reducible apply Br.f); · assumption)
    | ((with_reducible apply Br.dt); · exact ab_known)
    | ((with_reducible apply Br.df); · exact ab_known)
    | (with_reducible first | refine Br.dec (fun hc => ?_) (fun hc => ?_) | refine Br.mk (fun hc => ?_) (fun hc => ?_))
    | ((with_reducible first | apply NeedRows.mk | apply NeedMap.mk | apply NeedIter.mk); · exact ab_look)
    | ((with_reducible apply NeedLen.mk); · first | assumption | rfl)
    | ((with_reducible apply NeedRow.mk); · exact ab_lookR)
    | ((with_reducible apply DrawG.mk (List.replicate 60 false)); · decide +kernel)
    | (with_reducible first | refine NewP.mk (fun id hid => ?_) | refine NilP.mk (fun e he => ?_))
    | (with_reducible first | exact trivial | exact And.intro rfl rfl)
    | ((with_reducible apply PreP.mk); · exact ab_asked)
    | refine Exists.intro _ (PreP.mk (bytesOf_lst _) ?_)
    | refine PreP.mk (lenD_lst _) ?_
    | (with_reducible first | refine PreP.mk ?_ ?_ | refine BothP.mk ?_ ?_)
    | ((with_reducible apply AncOr.anc); · decide +kernel)
    | with_reducible refine AncOr.go ?_)
  refine ⟨m, rfl, hm2, ⟨nth_setN_same (x := .rows [[.mp mid, i64 low]]) ab_look, ab_look, h.ok, hne, h.keys, h.good, h.pos⟩, ⟨fun j o hj ho => ?_, fun _ hj => .inl hj, by simp only [setN_length, List.length_append, List.length_cons, List.length_nil]; omega⟩⟩
  have hlj := nth_lt ho
  simp only [List.mem_cons, List.not_mem_nil, or_false, not_or] at hj
  exact nth_setN_ne (by omega) (nth_setN_ne (by omega) (nth_app (nth_app ho)))
theorem s9gout (H : Heap) (r mid : Nat) (low : Int) (l : List Bt) (bs : List Nat) (ck : Nat) (h : RcG H r mid low l bs ck) (b : Bt) (hb : FitsB b) (lo : Int) (hok : letterOK b lo = true) (h6 : b.seq ≤ 9223372036854775807) (h7 : 0 ≤ low) (h8 : low ≤ 9223372036854775807) (hin : b.seq ∉ l.map (·.seq)) :
    Ab.Spec Try.prog 9 [.ptr r 0 0, .p (letterP b lo)] H (fun res H' => ∃ m bs' ck', res = .tup [i64 m, i64 0] ∧ MarkIs ((l ++ [b]).map (·.seq)) (if low < lo then lo else low) m ∧
      RcG H' r mid (if low < lo then lo else low) (l ++ [b]) bs' ck' ∧ Goes H [r, mid] H' [r, mid]) := by
  have hno : letterOK b lo = true := hok
  unfold letterOK at hno
  simp only [Bool.and_eq_true, decide_eq_true_eq] at hno
  obtain ⟨hbo, h4, h5⟩ := hno
  have hgood := GoodB.of_ok hb hbo
  have hq : 0 < b.seq := by omega
  have h4' : ¬ lo < 1 := by omega
  have h5' : ¬ b.seq < lo := by omega
  have hr1 := h.row
  have hr2 := h.map
  have hne := h.ne
  have hlt1 := nth_lt hr1
  have hlt2 := nth_lt hr2
  have hpk : ∀ n : Int, keysOk (.int .i64) (l.map entB) ∧ keyOk (.int .i64) (.int .i64 n) = true := fun n => ⟨keysOk_entB l, rfl⟩
  have hlk := lookB_out hin
  refine Ab.Spec.walk hm Try.func9 (by kernel_rfl) 100 ?_
  repeat' (first
    | ((with_reducible apply Onw.mk); conv => whnf)
    | (with_reducible first | apply Br.tt | apply Br.ff | apply Br.no)
    | ((with_reducible apply Br.t); · assumption)
    | ((with_reducible apply Br.f); · assumption)
    | ((with_reducible apply Br.dt); · exact ab_known)
    | ((with_reducible apply Br.df); · exact ab_known)
    | (with_reducible first | refine Br.dec (fun hc => ?_) (fun hc => ?_) | refine Br.mk (fun hc => ?_) (fun hc => ?_))
    | ((with_reducible apply DrawG.len [false, false, false, false, false, false, false, false, false, false, false, true, true, false]); · decide +kernel)
    | ((with_reducible apply DrawG.len [false, false, false, false, false, false, false, false, false, false, true]); · decide +kernel)
    | (refine PreP.mk (hpk _) ?_)
    | (refine OptP.none hlk ?_)
    | (refine CallOK.go (c19g _ b hb) (fun r2 H2 hr2 => ?_); obtain ⟨rfl, he2⟩ := hr2; rw [he2]; clear he2 H2)
    | (refine DetCall.go (c20g _ b hgood) ?_)
    | ((with_reducible first | apply NeedRows.mk | apply NeedMap.mk | apply NeedIter.mk); · exact ab_look)
    | ((with_reducible apply NeedLen.mk); · first | assumption | rfl)
    | ((with_reducible apply NeedRow.mk); · exact ab_lookR)
    | ((with_reducible apply DrawG.mk (List.replicate 60 false)); · decide +kernel)
    | (with_reducible first | refine NewP.mk (fun id hid => ?_) | refine NilP.mk (fun e he => ?_))
    | (with_reducible first | exact trivial | exact And.intro rfl rfl)
    | ((with_reducible apply PreP.mk); · exact ab_asked)
    | refine Exists.intro _ (PreP.mk (bytesOf_lst _) ?_)
    | refine PreP.mk (lenD_lst _) ?_
    | (with_reducible first | refine PreP.mk ?_ ?_ | refine BothP.mk ?_ ?_)
    | ((with_reducible apply AncOr.anc); · decide +kernel)
    | with_reducible refine AncOr.go ?_)
  rename_i id0 hid0
  rw [List.length_append] at hid
  simp only [List.length_cons, List.length_nil] at hid
  have hup := updB_out hin
  have hok2 := h.ok.upd (.int .i64 b.seq) (.p (btP b))
  rw [hup] at hok2
  rw [hup]
  have hkeys : ((l ++ [b]).map (·.seq)).Nodup := by
    rw [List.map_append, List.nodup_append]
    exact ⟨h.keys, by simp, fun x hx y hy e => by simp at hy; subst hy; subst e; exact hin hx⟩
  have hgood2 : ∀ x ∈ l ++ [b], GoodB x := fun x hx => by
    rcases List.mem_append.1 hx with q | q
    · exact h.good x q
    · simp at q; subst q; exact hgood
  have hpos2 : ∀ x ∈ l ++ [b], 0 < x.seq ∧ x.seq ≤ 9223372036854775807 := fun x hx => by
    rcases List.mem_append.1 hx with q | q
    · exact h.pos x q
    · simp at q; subst q; exact ⟨hq, h6⟩
  refine CallOK.go (c11g (low := if low < lo then lo else low) (l := l ++ [b]) (bs := updB (l.map entB) (.int .i64 b.seq) bs ck) (ck := updC (l.map entB) (.int .i64 b.seq) ck) (mid := mid) ?_ ?_ ?_) (fun r2 H2 hr => ?_)
  · exact ⟨nth_setN_same (x := .rows [[.mp mid, i64 low]]) ab_look, nth_setN_ne hne ab_look, hok2, hne, hkeys, hgood2, hpos2⟩
  · split <;> omega
  · split <;> omega
  obtain ⟨⟨m, rfl, hm2⟩, he2⟩ := hr
  rw [he2]; clear he2 H2
  repeat' (first
    | ((with_reducible apply Onw.mk); conv => whnf)
    | (with_reducible first | apply Br.tt | apply Br.ff | apply Br.no)
    | ((with_reducible apply Br.t); · assumption)
    | ((with_reducible apply Br.f); · assumption)
    | ((with_reducible apply Br.dt); · exact ab_known)
    | ((with_reducible apply Br.df); · exact ab_known)
    | (with_reducible first | refine Br.dec (fun hc => ?_) (fun hc => ?_) | refine Br.mk (fun hc => ?_) (fun hc => ?_))
    | ((with_reducible first | apply NeedRows.mk | apply NeedMap.mk | apply NeedIter.mk); · exact ab_look)
    | ((with_reducible apply NeedLen.mk); · first | assumption | rfl)
    | ((with_reducible apply NeedRow.mk); · exact ab_lookR)
    | ((with_reducible apply DrawG.mk (List.replicate 60 false)); · decide +kernel)
    | (with_reducible first | refine NewP.mk (fun id hid => ?_) | refine NilP.mk (fun e he => ?_))
    | (with_reducible first | exact trivial | exact And.intro rfl rfl)
    | ((with_reducible apply PreP.mk); · exact ab_asked)
    | refine Exists.intro _ (PreP.mk (bytesOf_lst _) ?_)
    | refine PreP.mk (lenD_lst _) ?_
    | (with_reducible first | refine PreP.mk ?_ ?_ | refine BothP.mk ?_ ?_)
    | ((with_reducible apply AncOr.anc); · decide +kernel)
    | with_reducible refine AncOr.go ?_)
  refine ⟨m, _, _, rfl, hm2, ⟨nth_setN_same (x := .rows [[.mp mid, i64 low]]) ab_look, nth_setN_ne hne ab_look, hok2, hne, hkeys, hgood2, hpos2⟩, ⟨fun j o hj ho => ?_, fun _ hj => .inl hj, by simp only [setN_length, List.length_append, List.length_cons, List.length_nil]; omega⟩⟩
  have hlj := nth_lt ho
  simp only [List.mem_cons, List.not_mem_nil, or_false, not_or] at hj
  exact nth_setN_ne (by omega) (nth_setN_ne (by omega) (nth_setN_ne (by omega) (nth_app (nth_app ho))))
end Go.Proofs.Ytjlhkbikconboaa
