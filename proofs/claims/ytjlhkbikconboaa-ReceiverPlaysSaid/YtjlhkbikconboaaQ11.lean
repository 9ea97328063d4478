/- What functions of the receiver, of labels, rows, batches, and of the laws over them, do. Conditions: those that each theorem names. -/
import Derived.Test.YtjlhkbikconboaaQ10
set_option linter.unusedVariables false
set_option linter.unusedSimpArgs false
namespace Go.Proofs.Ytjlhkbikconboaa
open Go.Ab
set_option maxRecDepth 100000
set_option maxHeartbeats 1000000
attribute [local irreducible] Run CallOK DetCall Br PreP BothP AncOr Onw NeedRows NeedMap NeedRow NeedLen NilP NeedIter RoundP EntryP EqP OptP NewP NewSlice NewMade AppTo DrawG anc drawB
/-- A batch. -/
structure Bt where
  seq : Int
  t : Int
  g : List UInt8
  rows : List Rw
def btP (b : Bt) : P := .agg [.int .i64 b.seq, .int .i64 b.t, .str b.g, .lst (b.rows.map rowRow)]
def rowsOK (l : List Rw) : Bool := l.all rowOK && (eqRs l (isort l) && !dupL (isort l))
def batchOK (b : Bt) : Bool := decide (0 < b.seq) && (decide (0 ≤ b.t ∧ b.t ≤ 1000000) && (nameOK b.g && rowsOK b.rows))
/-- Batches that a machine can bear, of a few rows. -/
structure FitsB (b : Bt) : Prop where
  g : b.g.length ≤ 9223372036854775807
  n : b.rows.length ≤ 12
  rows : ∀ r ∈ b.rows, Fits r.ls
theorem q19 (b : Bt) (hb : FitsB b) (H : Heap) : Ab.Spec Try.prog 19 [.p (btP b)] H (fun r H' => r = boolD (batchOK b) ∧ ∃ x, H' = H ++ x) := by
  have hn := hb.n
  have hll : ((b.rows.map rowRow).length : Int) = b.rows.length := by simp
  have h40 : ((b.rows.map rowRow).length : Int) ≤ 40 := by rw [hll]; omega
  have hbig : b.rows.length ≤ 9223372036854775807 := by omega
  refine Ab.Spec.walk hm Try.func19 (by kernel_rfl) 100 ?_
  repeat' (first
    | ((with_reducible apply Onw.mk); conv => whnf)
    | (with_reducible first | apply Br.tt | apply Br.ff | apply Br.no)
    | ((with_reducible apply Br.t); · assumption)
    | ((with_reducible apply Br.f); · assumption)
    | ((with_reducible apply Br.dt); · exact ab_known)
    | ((with_reducible apply Br.df); · exact ab_known)
    | (with_reducible first | refine Br.dec (fun hc => ?_) (fun hc => ?_) | refine Br.mk (fun hc => ?_) (fun hc => ?_))
    | (refine DetCall.go (c28 _ _ hb.g) ?_)
    | (refine DetCall.go (c29 _ _ ⟨hbig, hb.rows⟩) ?_)
    | (refine DetCall.go (c33 _ _ hb.n hb.rows) ?_)
    | (refine DetCall.go (c32 _ _ _ hbig hb.rows) ?_)
    | (refine DetCall.go (c34 _ _ hb.n hb.rows) ?_)
    | ((with_reducible first | apply NeedRows.mk | apply NeedMap.mk | apply NeedIter.mk); · exact ab_look)
    | ((with_reducible apply NeedLen.mk); · first | assumption | rfl)
    | ((with_reducible apply NeedRow.mk); · exact ab_lookR)
    | ((with_reducible apply DrawG.mk (List.replicate 60 false)); · decide +kernel)
    | (with_reducible first | refine NewP.mk (fun id hid => ?_) | refine NilP.mk (fun e he => ?_))
    | (with_reducible first | exact trivial | exact And.intro rfl rfl)
    | ((with_reducible apply PreP.mk); · exact ab_asked)
    | refine Exists.intro _ (PreP.mk (bytesOf_lst _) ?_)
    | refine PreP.mk (lenD_lst _) ?_
    | (with_reducible first | refine PreP.mk ?_ ?_ | refine BothP.mk ?_ ?_)
    | ((with_reducible apply AncOr.anc); · decide +kernel)
    | with_reducible refine AncOr.go ?_)
  all_goals
    refine ⟨congrArg boolD ?_, _, rfl⟩
    unfold batchOK rowsOK
    generalize b.rows.all rowOK = A at *
    generalize eqRs b.rows (isort b.rows) = B at *
    generalize dupL (isort b.rows) = C at *
    generalize nameOK b.g = D at *
    clear h40 hll hn hid hbig hb
    by_cases h1 : 0 < b.seq <;> by_cases h2 : 0 ≤ b.t <;> by_cases h3 : b.t ≤ 1000000 <;> (first | (exfalso; omega) | (simp_all; done) | (simp_all; intros; omega))
theorem c19g (H : Heap) (b : Bt) (hb : FitsB b) : CallOK Try.prog 19 [.p (btP b)] H (fun r H' => r = boolD (batchOK b) ∧ H' = H) :=
  (CallOK.trim (Q := fun r => r = boolD (batchOK b)) ((CallOK.of_spec (q19 b hb H)).mono (fun _ _ hr => ⟨hr.2, by rw [hr.1]; rfl, hr.1⟩))).mono (fun _ _ hr => ⟨hr.2.2, hr.1⟩)
def rw0 : Rw := ⟨[], false, 0⟩
def strictAt (l : List Rw) (k : Nat) : Bool := rowOK (l.getD k rw0) && (decide (k = 0) || decide (cmpR (l.getD (k - 1) rw0) (l.getD k rw0) < 0))
theorem dupL_iff : ∀ (s : List Rw), dupL s = true ↔ ∃ k a b, s[k]? = some a ∧ s[k + 1]? = some b ∧ cmpR a b = 0
  | [] => by simp [dupL]
  | [a] => by simp [dupL]
  | a :: b :: t => by
    simp only [dupL, Bool.or_eq_true, decide_eq_true_eq, dupL_iff (b :: t)]
    constructor
    · rintro (h | ⟨k, x, y, h1, h2, h3⟩)
      · exact ⟨0, a, b, rfl, rfl, h⟩
      · exact ⟨k + 1, x, y, h1, h2, h3⟩
    · rintro ⟨k, x, y, h1, h2, h3⟩
      cases k with
      | zero => simp at h1 h2; subst h1; subst h2; exact .inl h3
      | succ k => exact .inr ⟨k, x, y, h1, h2, h3⟩
theorem rowsOK_eq (l : List Rw) : rowsOK l = (List.range l.length).all (strictAt l) := by
  have hg : ∀ {k : Nat} {a : Rw}, l[k]? = some a → l.getD k rw0 = a := fun h => by rw [List.getD_eq_getElem?_getD, h]; rfl
  rw [Bool.eq_iff_iff]
  unfold rowsOK
  simp only [Bool.and_eq_true, Bool.not_eq_true', List.all_eq_true, List.mem_range, eqRs_iff]
  constructor
  · rintro ⟨h1, h2, h3⟩ k hk
    have ⟨_, hs, _⟩ := isort_spec l
    rw [← h2] at hs h3
    obtain ⟨a, ha⟩ : ∃ a, l[k]? = some a := ⟨_, List.getElem?_eq_getElem hk⟩
    unfold strictAt
    rw [hg ha]
    simp only [Bool.and_eq_true, Bool.or_eq_true, decide_eq_true_eq]
    refine ⟨h1 a (List.mem_of_getElem? ha), ?_⟩
    rcases Nat.eq_zero_or_pos k with h0 | h0
    · exact .inl h0
    · right
      obtain ⟨p, hp⟩ : ∃ p, l[k - 1]? = some p := ⟨_, List.getElem?_eq_getElem (by omega)⟩
      rw [hg hp]
      have e : k - 1 + 1 = k := by omega
      have q1 := hs (k - 1) p a hp (by rw [e]; exact ha)
      have q2 : ¬ cmpR p a = 0 := fun e0 => by
        have : dupL l = true := (dupL_iff l).2 ⟨k - 1, p, a, hp, by rw [e]; exact ha, e0⟩
        rw [this] at h3; cases h3
      have q3 := cmpL_neg p.ls a.ls
      unfold cmpR at q1 q2 ⊢
      omega
  · intro h
    have hlt : ∀ k a b, l[k]? = some a → l[k + 1]? = some b → cmpR a b < 0 := fun k a b ha hb => by
      have := h (k + 1) (get_lt hb)
      unfold strictAt at this
      simp only [Nat.add_sub_cancel, hg ha, hg hb, Bool.and_eq_true, Bool.or_eq_true, decide_eq_true_eq] at this
      rcases this.2 with q | q
      · omega
      · exact q
    have hs : SortedL l := fun k a b ha hb => by
      have q1 := hlt k a b ha hb
      have q3 := cmpL_neg a.ls b.ls
      unfold cmpR at q1 ⊢
      omega
    refine ⟨fun r hr => ?_, (isort_same hs).symm, ?_⟩
    · obtain ⟨k, hk⟩ := List.mem_iff_getElem?.1 hr
      have := h k (get_lt hk)
      unfold strictAt at this
      rw [hg hk] at this
      simp only [Bool.and_eq_true] at this
      exact this.1
    · rw [isort_same hs, Bool.eq_false_iff]
      intro e
      obtain ⟨k, a, b, h1, h2, h3⟩ := (dupL_iff l).1 e
      have := hlt k a b h1 h2
      omega
theorem q18 (b : Bt) (hb : FitsB b) (H : Heap) : Ab.Spec Try.prog 18 [.p (btP b)] H (fun r H' => r = boolD (batchOK b) ∧ ∃ x, H' = H ++ x) := by
  have hn := hb.n
  have hll : ((b.rows.map rowRow).length : Int) = b.rows.length := by simp
  have h40 : ¬ (40 : Int) < ((b.rows.map rowRow).length : Int) := by rw [hll]; omega
  have hbig : b.rows.length ≤ 9223372036854775807 := by omega
  refine Ab.Spec.walk hm Try.func18 (by kernel_rfl) 100 ?_
  by_cases hh : (0 < b.seq) ∧ (0 ≤ b.t ∧ b.t ≤ 1000000) ∧ nameOK b.g = true
  · have hbo : batchOK b = (List.range b.rows.length).all (strictAt b.rows) := by
      unfold batchOK
      rw [decide_eq_true hh.1, decide_eq_true hh.2.1, hh.2.2, rowsOK_eq]; simp
    have no : ∀ k, k < b.rows.length → strictAt b.rows k = false → boolD false = boolD (batchOK b) := fun k hk hf => by rw [hbo, range_false hk hf]
    have h1 := hh.1
    have h2 := hh.2.1.1
    have h3 := hh.2.1.2
    have hg := hh.2.2
    have g1 : ¬ b.seq < 1 := by omega
    have g2 : ¬ b.t < 0 := by omega
    have g3 : ¬ 1000000 < b.t := by omega
    repeat' (first
      | ((with_reducible apply Onw.mk); conv => whnf)
      | (with_reducible first | apply Br.tt | apply Br.ff | apply Br.no)
      | ((with_reducible apply Br.t); · assumption)
      | ((with_reducible apply Br.f); · assumption)
      | ((with_reducible apply Br.dt); · exact ab_known)
      | ((with_reducible apply Br.df); · exact ab_known)
      | (with_reducible first | refine Br.dec (fun hc => ?_) (fun hc => ?_) | refine Br.mk (fun hc => ?_) (fun hc => ?_))
      | (refine CallOK.go (c24 _ _ hb.g) (fun r2 H2 hr2 => ?_); obtain ⟨rfl, he2⟩ := hr2; rw [he2]; clear he2 H2)
      | ((with_reducible first | apply NeedRows.mk | apply NeedMap.mk | apply NeedIter.mk); · exact ab_look)
      | ((with_reducible apply NeedLen.mk); · first | assumption | rfl)
      | ((with_reducible apply NeedRow.mk); · exact ab_lookR)
      | ((with_reducible apply DrawG.mk (List.replicate 60 false)); · decide +kernel)
      | (with_reducible first | refine NewP.mk (fun id hid => ?_) | refine NilP.mk (fun e he => ?_))
      | (with_reducible first | exact trivial | exact And.intro rfl rfl)
      | ((with_reducible apply PreP.mk); · exact ab_asked)
      | refine Exists.intro _ (PreP.mk (bytesOf_lst _) ?_)
      | refine PreP.mk (lenD_lst _) ?_
      | (with_reducible first | refine PreP.mk ?_ ?_ | refine BothP.mk ?_ ?_)
      | ((with_reducible apply AncOr.anc); · decide +kernel)
      | with_reducible refine AncOr.go ?_)
    refine Run.keep [(1, .ptr id 0 0), (3, i64 (0 : Nat))] ⟨rfl, rfl, trivial⟩ ?_
    refine Run.rounds (fun (i : Nat) T H2 => T = [(1, .ptr id 0 0), (3, i64 i)] ∧ nth H2 id = some (.rows [[.p (.int .i64 b.seq), .p (.int .i64 b.t), .p (.str b.g), .p (.lst (b.rows.map rowRow))]]) ∧ (∃ z, H2 = H ++ z) ∧ i ≤ b.rows.length ∧ ∀ k, k < i → strictAt b.rows k = true) (fun i => b.rows.length - i) ?_ (x := 0)
      ⟨rfl, nth_new hid, ⟨_, rfl⟩, Nat.zero_le _, fun k h => absurd h (Nat.not_lt_zero _)⟩
    rintro i T H2 ⟨rfl, hrow2, ⟨z, rfl⟩, hil, hall⟩ ih
    have hlt2 := nth_lt hrow2
    refine Run.walk hm Try.func18 100 ?_
    rcases Nat.lt_or_ge i b.rows.length with hi | hi
    · have hc1 : (i : Int) < ((b.rows.map rowRow).length : Int) := by rw [hll]; omega
      have wi : IntKind.i64.wrap ((i : Int) + 1) = ((i + 1 : Nat) : Int) := by rw [wrap64 (by omega) (by omega)]; omega
      have next : strictAt b.rows i = true → ∀ k, k < i + 1 → strictAt b.rows k = true := fun ho k hk => by
        rcases Nat.lt_or_ge k i with q | q
        · exact hall k q
        · obtain rfl : k = i := by omega
          exact ho
      obtain ⟨p, hp⟩ : ∃ p, b.rows[i]? = some p := ⟨_, List.getElem?_eq_getElem hi⟩
      have hri : Ab.rowAt (b.rows.map rowRow) (i : Int).toNat = rowRow p := rowAt_map hp
      have hrp : (0 : Int) ≤ (i : Int) ∧ (i : Int) < ((b.rows.map rowRow).length : Int) ∧ (Ab.rowAt (b.rows.map rowRow) (i : Int).toNat).length = 3 := ⟨by omega, hc1, by rw [hri]; rfl⟩
      have hfp := hb.rows p (List.mem_of_getElem? hp)
      have hgp : b.rows.getD i rw0 = p := by rw [List.getD_eq_getElem?_getD, hp]; rfl
      rcases Nat.eq_zero_or_pos i with h0 | h0
      · have hi0 : ¬ (0 : Int) < (i : Int) := by omega
        have ho : strictAt b.rows i = rowOK p := by unfold strictAt; rw [hgp, decide_eq_true h0]; simp
        repeat' (first
          | ((with_reducible apply Onw.mk); conv => whnf)
          | (with_reducible first | apply Br.tt | apply Br.ff | apply Br.no)
          | ((with_reducible apply Br.t); · assumption)
          | ((with_reducible apply Br.f); · assumption)
          | ((with_reducible apply Br.dt); · exact ab_known)
          | ((with_reducible apply Br.df); · exact ab_known)
          | (with_reducible first | refine Br.dec (fun hc => ?_) (fun hc => ?_) | refine Br.mk (fun hc => ?_) (fun hc => ?_))
          | (refine CallOK.go (c24 _ _ hb.g) (fun r2 H2 hr2 => ?_); obtain ⟨rfl, he2⟩ := hr2; rw [he2]; clear he2 H2)
          | (refine PreP.mk hrp ?_)
          | (refine EqP.mk hri ?_)
          | (refine DetCall.go (c25 _ p.ls hfp) ?_)
          | (refine DetCall.go (c26 _ p.ovf p.n) ?_)
          | ((with_reducible first | apply NeedRows.mk | apply NeedMap.mk | apply NeedIter.mk); · exact ab_look)
          | ((with_reducible apply NeedLen.mk); · first | assumption | rfl)
          | ((with_reducible apply NeedRow.mk); · exact ab_lookR)
          | ((with_reducible apply DrawG.mk (List.replicate 60 false)); · decide +kernel)
          | (with_reducible first | refine NewP.mk (fun id hid => ?_) | refine NilP.mk (fun e he => ?_))
          | (with_reducible first | exact trivial | exact And.intro rfl rfl)
          | ((with_reducible apply PreP.mk); · exact ab_asked)
          | refine Exists.intro _ (PreP.mk (bytesOf_lst _) ?_)
          | refine PreP.mk (lenD_lst _) ?_
          | (with_reducible first | refine PreP.mk ?_ ?_ | refine BothP.mk ?_ ?_)
          | ((with_reducible apply AncOr.anc); · decide +kernel)
          | with_reducible refine AncOr.go ?_)
        all_goals first
          | (refine Run.keep _ ?_ (ih (i + 1) _ _ (by omega) ⟨rfl, by rw [setN_last hid]; exact nth_app hrow2, ⟨_, by rw [setN_last hid]; exact List.append_assoc _ _ _⟩, by omega, next ?_⟩)
             · exact ⟨rfl, congrArg (fun x => some (i64 x)) wi, trivial⟩
             · clear ih next; rw [ho]; unfold rowOK; simp_all [cmpR])
          | (refine ⟨?_, _, by rw [setN_last hid]; exact List.append_assoc _ _ _⟩
             refine no i (by omega) ?_
             clear ih next no; rw [ho]; unfold rowOK; simp_all [cmpR] <;> exact decide_eq_false (by omega))
      · have hi0 : (0 : Int) < (i : Int) := by omega
        obtain ⟨q, hq⟩ : ∃ q, b.rows[i - 1]? = some q := ⟨_, List.getElem?_eq_getElem (by omega)⟩
        have hfq := hb.rows q (List.mem_of_getElem? hq)
        have hgq : b.rows.getD (i - 1) rw0 = q := by rw [List.getD_eq_getElem?_getD, hq]; rfl
        have wq : IntKind.i64.wrap ((i : Int) - 1) = ((i - 1 : Nat) : Int) := by rw [wrap64 (by omega) (by omega)]; omega
        have hrj : Ab.rowAt (b.rows.map rowRow) (IntKind.i64.wrap ((i : Int) - 1)).toNat = rowRow q := by rw [wq]; exact rowAt_map hq
        have hrq : (0 : Int) ≤ IntKind.i64.wrap ((i : Int) - 1) ∧ IntKind.i64.wrap ((i : Int) - 1) < ((b.rows.map rowRow).length : Int) ∧ (Ab.rowAt (b.rows.map rowRow) (IntKind.i64.wrap ((i : Int) - 1)).toNat).length = 3 := ⟨by rw [wq]; omega, by rw [wq]; omega, by rw [hrj]; rfl⟩
        have ho : strictAt b.rows i = (rowOK p && decide (cmpR q p < 0)) := by unfold strictAt; rw [hgp, hgq, decide_eq_false (by omega)]; simp
        repeat' (first
          | ((with_reducible apply Onw.mk); conv => whnf)
          | (with_reducible first | apply Br.tt | apply Br.ff | apply Br.no)
          | ((with_reducible apply Br.t); · assumption)
          | ((with_reducible apply Br.f); · assumption)
          | ((with_reducible apply Br.dt); · exact ab_known)
          | ((with_reducible apply Br.df); · exact ab_known)
          | (with_reducible first | refine Br.dec (fun hc => ?_) (fun hc => ?_) | refine Br.mk (fun hc => ?_) (fun hc => ?_))
          | (refine CallOK.go (c24 _ _ hb.g) (fun r2 H2 hr2 => ?_); obtain ⟨rfl, he2⟩ := hr2; rw [he2]; clear he2 H2)
          | (refine PreP.mk hrp ?_)
          | (refine EqP.mk hri ?_)
          | (refine DetCall.go (c25 _ p.ls hfp) ?_)
          | (refine DetCall.go (c26 _ p.ovf p.n) ?_)
          | (refine PreP.mk hrq ?_)
          | (refine EqP.mk hrj ?_)
          | (refine DetCall.go (c27 _ q.ls p.ls hfq.1) ?_)
          | ((with_reducible first | apply NeedRows.mk | apply NeedMap.mk | apply NeedIter.mk); · exact ab_look)
          | ((with_reducible apply NeedLen.mk); · first | assumption | rfl)
          | ((with_reducible apply NeedRow.mk); · exact ab_lookR)
          | ((with_reducible apply DrawG.mk (List.replicate 60 false)); · decide +kernel)
          | (with_reducible first | refine NewP.mk (fun id hid => ?_) | refine NilP.mk (fun e he => ?_))
          | (with_reducible first | exact trivial | exact And.intro rfl rfl)
          | ((with_reducible apply PreP.mk); · exact ab_asked)
          | refine Exists.intro _ (PreP.mk (bytesOf_lst _) ?_)
          | refine PreP.mk (lenD_lst _) ?_
          | (with_reducible first | refine PreP.mk ?_ ?_ | refine BothP.mk ?_ ?_)
          | ((with_reducible apply AncOr.anc); · decide +kernel)
          | with_reducible refine AncOr.go ?_)
        all_goals first
          | (refine Run.keep _ ?_ (ih (i + 1) _ _ (by omega) ⟨rfl, by rw [setN_last hid]; exact nth_app hrow2, ⟨_, by rw [setN_last hid]; exact List.append_assoc _ _ _⟩, by omega, next ?_⟩)
             · exact ⟨rfl, congrArg (fun x => some (i64 x)) wi, trivial⟩
             · clear ih next; rw [ho]; unfold rowOK; simp_all [cmpR])
          | (refine ⟨?_, _, by rw [setN_last hid]; exact List.append_assoc _ _ _⟩
             refine no i (by omega) ?_
             clear ih next no; rw [ho]; unfold rowOK; simp_all [cmpR] <;> exact decide_eq_false (by omega))
    · have hc1 : ¬ (i : Int) < ((b.rows.map rowRow).length : Int) := by rw [hll]; omega
      obtain rfl : i = b.rows.length := by omega
      repeat' (first
        | ((with_reducible apply Onw.mk); conv => whnf)
        | (with_reducible first | apply Br.tt | apply Br.ff | apply Br.no)
        | ((with_reducible apply Br.t); · assumption)
        | ((with_reducible apply Br.f); · assumption)
        | ((with_reducible apply Br.dt); · exact ab_known)
        | ((with_reducible apply Br.df); · exact ab_known)
        | (with_reducible first | refine Br.dec (fun hc => ?_) (fun hc => ?_) | refine Br.mk (fun hc => ?_) (fun hc => ?_))
        | ((with_reducible first | apply NeedRows.mk | apply NeedMap.mk | apply NeedIter.mk); · exact ab_look)
        | ((with_reducible apply NeedLen.mk); · first | assumption | rfl)
        | ((with_reducible apply NeedRow.mk); · exact ab_lookR)
        | ((with_reducible apply DrawG.mk (List.replicate 60 false)); · decide +kernel)
        | (with_reducible first | refine NewP.mk (fun id hid => ?_) | refine NilP.mk (fun e he => ?_))
        | (with_reducible first | exact trivial | exact And.intro rfl rfl)
        | ((with_reducible apply PreP.mk); · exact ab_asked)
        | refine Exists.intro _ (PreP.mk (bytesOf_lst _) ?_)
        | refine PreP.mk (lenD_lst _) ?_
        | (with_reducible first | refine PreP.mk ?_ ?_ | refine BothP.mk ?_ ?_)
        | ((with_reducible apply AncOr.anc); · decide +kernel)
        | with_reducible refine AncOr.go ?_)
      refine ⟨?_, _, rfl⟩
      rw [hbo, range_true hall]; rfl
  · have hbo : batchOK b = false := by
      rw [Bool.eq_false_iff]; intro e
      unfold batchOK at e
      simp only [Bool.and_eq_true, decide_eq_true_eq] at e
      exact hh ⟨e.1, e.2.1, e.2.2.1⟩
    repeat' (first
      | ((with_reducible apply Onw.mk); conv => whnf)
      | (with_reducible first | apply Br.tt | apply Br.ff | apply Br.no)
      | ((with_reducible apply Br.t); · assumption)
      | ((with_reducible apply Br.f); · assumption)
      | ((with_reducible apply Br.dt); · exact ab_known)
      | ((with_reducible apply Br.df); · exact ab_known)
      | (with_reducible first | refine Br.dec (fun hc => ?_) (fun hc => ?_) | refine Br.mk (fun hc => ?_) (fun hc => ?_))
      | (refine CallOK.go (c24 _ _ hb.g) (fun r2 H2 hr2 => ?_); obtain ⟨rfl, he2⟩ := hr2; rw [he2]; clear he2 H2)
      | ((with_reducible first | apply NeedRows.mk | apply NeedMap.mk | apply NeedIter.mk); · exact ab_look)
      | ((with_reducible apply NeedLen.mk); · first | assumption | rfl)
      | ((with_reducible apply NeedRow.mk); · exact ab_lookR)
      | ((with_reducible apply DrawG.mk (List.replicate 60 false)); · decide +kernel)
      | (with_reducible first | refine NewP.mk (fun id hid => ?_) | refine NilP.mk (fun e he => ?_))
      | (with_reducible first | exact trivial | exact And.intro rfl rfl)
      | ((with_reducible apply PreP.mk); · exact ab_asked)
      | refine Exists.intro _ (PreP.mk (bytesOf_lst _) ?_)
      | refine PreP.mk (lenD_lst _) ?_
      | (with_reducible first | refine PreP.mk ?_ ?_ | refine BothP.mk ?_ ?_)
      | ((with_reducible apply AncOr.anc); · decide +kernel)
      | with_reducible refine AncOr.go ?_)
    all_goals first
      | exact ⟨by rw [hbo]; rfl, _, rfl⟩
      | (exfalso; refine hh ⟨by omega, ⟨by omega, by omega⟩, ?_⟩; assumption)
theorem c18 (H : Heap) (b : Bt) (hb : FitsB b) : CallOK Try.prog 18 [.p (btP b)] H (fun r H' => r = boolD (batchOK b) ∧ H' = H) :=
  (CallOK.trim (Q := fun r => r = boolD (batchOK b)) ((CallOK.of_spec (q18 b hb H)).mono (fun _ _ hr => ⟨hr.2, by rw [hr.1]; rfl, hr.1⟩))).mono (fun _ _ hr => ⟨hr.2.2, hr.1⟩)
end Go.Proofs.Ytjlhkbikconboaa
