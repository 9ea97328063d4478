/- What functions of the disk, and of the laws over it, do. Conditions: those that each theorem names. -/
import Derived.Test.YtanknokhbfijdaaD31
set_option linter.unusedVariables false
set_option linter.unusedSimpArgs false
namespace Go.Proofs.Ytanknokhbfijdaa
open Go.Ab
set_option maxRecDepth 100000
set_option maxHeartbeats 1000000
attribute [local irreducible] Run CallOK DetCall Br PreP BothP AncOr Onw NeedRows NeedMap NeedRow NeedLen NilP NeedIter RoundP EntryP EqP OptP NewP NewSlice NewMade AppTo DrawG anc drawB
/-- slices.Grow of nil. -/
theorem c80 (H : Heap) (n : Nat) (h0 : 0 < n) (hn : n ≤ 10000000) : CallOK Try.prog 80 [.p .nil, i64 n] H (fun r H' => ∃ id, OwnL H H' id [] ∧ r = .own id 1 0 0 none) := by
  refine CallOK.of_calls (Enters.mk Try.func80 rfl (by kernel_rfl)) (fun g M env w vs hst hr => ?_)
  obtain ⟨v1, vs1, rfl, h1, hr⟩ := hr.cons_inv
  obtain ⟨v2, vs2, rfl, h2, hr⟩ := hr.cons_inv
  obtain rfl := hr.nil_inv
  have e1 : v1 = .slice none 0 0 := by
    cases h1 with
    | p q => cases q with
      | nil => rfl
  have e2 : v2 = .int .i64 n := by
    cases h2 with
    | p q => cases q with
      | int => rfl
  subst e1; subst e2
  obtain ⟨i0, hi, hz0, hz1, hz2⟩ : ∃ i0, Try.prog.info? 5 = some i0 ∧ i0.zero = some (.int .u8 0) ∧ i0.size = 1 ∧ i0.bytes = 1 := ⟨_, rfl, rfl, rfl, rfl⟩
  have hk := Any8.slices_Grow_grow Try.grow80 i0 (.int .u8 0) hi hz0 (by omega) none 0 0 n [] w (Nat.le_refl _) (by omega) (by rw [hz2]; omega) (by omega) (by simp) (fun _ => rfl) (fun a h => by cases h)
  refine hk.mono ?_
  rintro e w' ⟨rfl, rfl⟩
  rw [Nat.zero_add]
  have hge : n ≤ grownCap w n 0 5 := by
    have := grownCap_ge w n 0 5
    exact this
  have hrt : (Try.grow80_ren).t 25 = 5 := rfl
  rw [hrt]
  generalize hG : grownCap w n 0 5 = G at hge
  generalize hcc : (([] : List Value).toArray ++ Builtin.zeroCells (Value.int .u8 0).cells (n - 0) ++ Builtin.zeroCells (Value.int .u8 0).cells (G - n)) = cc
  have hcs : cc.size = G := by
    rw [← hcc]
    simp [Builtin.zeroCells, Value.cells]
    omega
  let nb : Blk := ⟨some w.heap.size, 0, 1, G⟩
  have hpush : StH g (H ++ [.rows []]) M (env ++ [nb]) (w.drew.alloc (.cells cc 5)) := by
    refine (hst.same (w' := w.drew) rfl).push (blk := nb) (ob := .cells cc 5) rfl rfl ?_
    refine ⟨cc, 5, (0, 0), by rw [alloc_heap]; exact Array.getElem?_push_size, by simp [nb, hcs], by simp [nb], fun r hr => (by cases hr), fun i j row d hi _ => (by simp at hi), .inl rfl⟩
  refine ⟨_, _, _, M, env ++ [nb], rfl, ⟨_, OwnL.start H, rfl⟩, Ext.push _ _ _, hpush, ?_⟩
  exact .own (blk := nb) (b := w.heap.size) (by rw [← hst.sim.len]; simp) rfl rfl (fun _ => by simp [nb]) (Nat.zero_le _) (by simp [nb]) (fun c' h => by cases h)

theorem appPre5 (n st : Nat) (rs : List (List D)) (b : List UInt8) (hb : b.length ≤ 10000000) (hn : n ≤ 100000000) (hst : st + n ≤ rs.length) : (n + ((b.map byteRow).map (·.map D.p)).length) * 1 ≤ maxRoom ∧ n + ((b.map byteRow).map (·.map D.p)).length ≤ maxS ∧ (∀ r ∈ (b.map byteRow).map (·.map D.p), r.length = 1) ∧
    (∀ r ∈ (b.map byteRow).map (·.map D.p), ∀ d ∈ r, isOne d = true) ∧ st + n ≤ rs.length := by
  rw [byteRow_map, List.length_map]
  unfold maxRoom maxS
  refine ⟨by omega, by omega, fun r hr => ?_, fun r hr d hd => ?_, hst⟩
  · obtain ⟨x, _, rfl⟩ := List.mem_map.1 hr
    rfl
  · obtain ⟨x, _, rfl⟩ := List.mem_map.1 hr
    simp [byteRowD] at hd
    subst hd; rfl
def lstP (l : List UInt8) : List P := [.lst (l.map byteRow)]
theorem s74 (H : Heap) (ls : List (List UInt8)) (hls : ls.length ≤ 1000) (hsz : ls.flatten.length ≤ 1000000) (h0 : 0 < ls.flatten.length) :
    Ab.Spec Try.prog 74 [.p (.lst (ls.map lstP))] H (fun r H' => ∃ id, OwnL H H' id (ls.flatten.map byteRow) ∧ r = .own id 1 0 ls.flatten.length none) := by
  have hll : ((ls.map lstP).length : Int) = ls.length := by simp
  have hpre : ∀ i, (ls.take i).flatten.length ≤ ls.flatten.length := fun i => by
    have : ls.flatten = (ls.take i).flatten ++ (ls.drop i).flatten := by rw [← List.flatten_append, List.take_append_drop]
    rw [this]; simp
  have hstep : ∀ i (l : List UInt8), ls[i]? = some l → (ls.take (i + 1)).flatten = (ls.take i).flatten ++ l := fun i l hl => by
    rw [List.take_add_one, hl]; simp
  refine Ab.Spec.walk hm Try.func74 (by kernel_rfl) 100 ?_
  repeat' (first
    | ((with_reducible apply Onw.mk); conv => whnf)
    | (with_reducible first | apply Br.tt | apply Br.ff | apply Br.no)
    | ((with_reducible apply Br.t); · assumption)
    | ((with_reducible apply Br.f); · assumption)
    | ((with_reducible apply Br.dt); · exact ab_known)
    | ((with_reducible apply Br.df); · exact ab_known)
    | (with_reducible first | refine Br.dec (fun hc => ?_) (fun hc => ?_) | refine Br.mk (fun hc => ?_) (fun hc => ?_))
    | ((with_reducible first | apply NeedRows.mk | apply NeedMap.mk | apply NeedIter.mk); · exact ab_look)
    | ((with_reducible apply NeedLen.mk); · first | assumption | rfl)
    | ((with_reducible apply NeedRow.mk); · exact ab_lookR)
    | ((with_reducible apply DrawG.mk (List.replicate 60 false)); · decide +kernel)
    | (with_reducible first | refine NewP.mk (fun id hid => ?_) | refine NilP.mk (fun e he => ?_))
    | (with_reducible first | exact trivial | exact And.intro rfl rfl)
    | ((with_reducible apply PreP.mk); · exact ab_asked)
    | refine Exists.intro _ (PreP.mk (bytesOf_lst _) ?_)
    | refine PreP.mk (lenD_lst _) ?_
    | (with_reducible first | refine PreP.mk ?_ ?_ | refine BothP.mk ?_ ?_)
    | ((with_reducible apply AncOr.anc); · decide +kernel)
    | with_reducible refine AncOr.go ?_)
  refine Run.keep [(0, .p (.lst (ls.map lstP))), (3, i64 (0 : Nat)), (9, .p (.lst (ls.map lstP))), (10, i64 ls.length), (11, i64 (0 : Nat))] ⟨rfl, rfl, rfl, congrArg (fun x => some (i64 x)) hll, rfl, trivial⟩ ?_
  refine Run.loop (fun (i : Nat) => [(0, .p (.lst (ls.map lstP))), (3, i64 (ls.take i).flatten.length), (9, .p (.lst (ls.map lstP))), (10, i64 ls.length), (11, i64 i)]) (fun _ => H) (fun i => i ≤ ls.length) (fun i => ls.length - i) ?_ 0 (Nat.zero_le _)
  intro i hi ih
  rcases Nat.lt_or_ge i ls.length with hil | hil
  · obtain ⟨l, hl⟩ : ∃ l, ls[i]? = some l := ⟨_, List.getElem?_eq_getElem hil⟩
    have hri : Ab.rowAt (ls.map lstP) (i : Int).toNat = lstP l := rowAt_map hl
    have hrp : 0 ≤ (i : Int) ∧ (i : Int) < (ls.map lstP).length ∧ (Ab.rowAt (ls.map lstP) (i : Int).toNat).length = 1 := ⟨by omega, by omega, by rw [hri]; rfl⟩
    have hle := hpre (i + 1)
    have hst := hstep i l hl
    have hlb : ((l.map byteRow).length : Int) = l.length := by simp
    rw [hst, List.length_append] at hle
    have hw : IntKind.i64.wrap (((ls.take i).flatten.length : Int) + ((l.map byteRow).length : Int)) = (((ls.take i).flatten.length + l.length : Nat) : Int) := by
      rw [hlb, wrap64 (by omega) (by omega)]; omega
    have hneg : ¬ IntKind.i64.wrap (((ls.take i).flatten.length : Int) + ((l.map byteRow).length : Int)) < 0 := by rw [hw]; omega
    refine Run.walk hm Try.func74 100 ?_
    repeat' (first
      | ((with_reducible apply Onw.mk); conv => whnf)
      | (with_reducible first | apply Br.tt | apply Br.ff | apply Br.no)
      | ((with_reducible apply Br.t); · assumption)
      | ((with_reducible apply Br.f); · assumption)
      | ((with_reducible apply Br.dt); · exact ab_known)
      | ((with_reducible apply Br.df); · exact ab_known)
      | (with_reducible first | refine Br.dec (fun hc => ?_) (fun hc => ?_) | refine Br.mk (fun hc => ?_) (fun hc => ?_))
      | (refine PreP.mk hrp ?_)
      | (refine EqP.mk hri ?_)
      | ((with_reducible first | apply NeedRows.mk | apply NeedMap.mk | apply NeedIter.mk); · exact ab_look)
      | ((with_reducible apply NeedLen.mk); · first | assumption | rfl)
      | ((with_reducible apply NeedRow.mk); · exact ab_lookR)
      | ((with_reducible apply DrawG.mk (List.replicate 60 false)); · decide +kernel)
      | (with_reducible first | refine NewP.mk (fun id hid => ?_) | refine NilP.mk (fun e he => ?_))
      | (with_reducible first | exact trivial | exact And.intro rfl rfl)
      | ((with_reducible apply PreP.mk); · exact ab_asked)
      | refine Exists.intro _ (PreP.mk (bytesOf_lst _) ?_)
      | refine PreP.mk (lenD_lst _) ?_
      | (with_reducible first | refine PreP.mk ?_ ?_ | refine BothP.mk ?_ ?_)
      | ((with_reducible apply AncOr.anc); · decide +kernel)
      | with_reducible refine AncOr.go ?_)
    refine Run.keep _ ?_ (ih (i + 1) (by omega) (by omega))
    rw [hst, List.length_append]
    exact ⟨rfl, congrArg (fun x => some (i64 x)) hw, rfl, rfl, slot64 (by omega) (by omega) (by omega), trivial⟩
  · obtain rfl : i = ls.length := by omega
    rw [List.take_length]
    refine Run.walk hm Try.func74 100 ?_
    repeat' (first
      | ((with_reducible apply Onw.mk); conv => whnf)
      | (with_reducible first | apply Br.tt | apply Br.ff | apply Br.no)
      | ((with_reducible apply Br.t); · assumption)
      | ((with_reducible apply Br.f); · assumption)
      | ((with_reducible apply Br.dt); · exact ab_known)
      | ((with_reducible apply Br.df); · exact ab_known)
      | (with_reducible first | refine Br.dec (fun hc => ?_) (fun hc => ?_) | refine Br.mk (fun hc => ?_) (fun hc => ?_))
      | ((with_reducible first | apply NeedRows.mk | apply NeedMap.mk | apply NeedIter.mk); · exact ab_look)
      | ((with_reducible apply NeedLen.mk); · first | assumption | rfl)
      | ((with_reducible apply NeedRow.mk); · exact ab_lookR)
      | ((with_reducible apply DrawG.mk (List.replicate 60 false)); · decide +kernel)
      | (with_reducible first | refine NewP.mk (fun id hid => ?_) | refine NilP.mk (fun e he => ?_))
      | (with_reducible first | exact trivial | exact And.intro rfl rfl)
      | ((with_reducible apply PreP.mk); · exact ab_asked)
      | refine Exists.intro _ (PreP.mk (bytesOf_lst _) ?_)
      | refine PreP.mk (lenD_lst _) ?_
      | (with_reducible first | refine PreP.mk ?_ ?_ | refine BothP.mk ?_ ?_)
      | ((with_reducible apply AncOr.anc); · decide +kernel)
      | with_reducible refine AncOr.go ?_)
    refine CallOK.go (c80 H ls.flatten.length h0 (by omega)) (fun r H1 hr => ?_)
    obtain ⟨id, hO, rfl⟩ := hr
    repeat' (first
      | ((with_reducible apply Onw.mk); conv => whnf)
      | (with_reducible first | apply Br.tt | apply Br.ff | apply Br.no)
      | ((with_reducible apply Br.t); · assumption)
      | ((with_reducible apply Br.f); · assumption)
      | ((with_reducible apply Br.dt); · exact ab_known)
      | ((with_reducible apply Br.df); · exact ab_known)
      | (with_reducible first | refine Br.dec (fun hc => ?_) (fun hc => ?_) | refine Br.mk (fun hc => ?_) (fun hc => ?_))
      | ((with_reducible first | apply NeedRows.mk | apply NeedMap.mk | apply NeedIter.mk); · exact ab_look)
      | ((with_reducible apply NeedLen.mk); · first | assumption | rfl)
      | ((with_reducible apply NeedRow.mk); · exact ab_lookR)
      | ((with_reducible apply DrawG.mk (List.replicate 60 false)); · decide +kernel)
      | (with_reducible first | refine NewP.mk (fun id hid => ?_) | refine NilP.mk (fun e he => ?_))
      | (with_reducible first | exact trivial | exact And.intro rfl rfl)
      | ((with_reducible apply PreP.mk); · exact ab_asked)
      | refine Exists.intro _ (PreP.mk (bytesOf_lst _) ?_)
      | refine PreP.mk (lenD_lst _) ?_
      | (with_reducible first | refine PreP.mk ?_ ?_ | refine BothP.mk ?_ ?_)
      | ((with_reducible apply AncOr.anc); · decide +kernel)
      | with_reducible refine AncOr.go ?_)
    refine Run.keep [(6, .own id 1 0 (0 : Nat) none), (25, .p (.lst (ls.map lstP))), (26, i64 ls.length), (27, i64 (0 : Nat))] ⟨rfl, rfl, congrArg (fun x => some (i64 x)) hll, rfl, trivial⟩ ?_
    refine Run.rounds (fun (i : Nat) T H2 => i ≤ ls.length ∧ ∃ id, T = [(6, .own id 1 0 (ls.take i).flatten.length none), (25, .p (.lst (ls.map lstP))), (26, i64 ls.length), (27, i64 (i : Nat))] ∧ OwnL H H2 id ((ls.take i).flatten.map byteRow)) (fun i => ls.length - i) ?_ (x := 0) ⟨by omega, _, rfl, hO⟩
    clear hO
    rintro i T H2 ⟨hi2, id, rfl, hO⟩ ih2
    have hrow := hO.2.2
    rcases Nat.lt_or_ge i ls.length with hil2 | hil2
    · obtain ⟨l, hl⟩ : ∃ l, ls[i]? = some l := ⟨_, List.getElem?_eq_getElem hil2⟩
      have hri : Ab.rowAt (ls.map lstP) (i : Int).toNat = lstP l := rowAt_map hl
      have hrp : 0 ≤ (i : Int) ∧ (i : Int) < (ls.map lstP).length ∧ (Ab.rowAt (ls.map lstP) (i : Int).toNat).length = 1 := ⟨by omega, by omega, by rw [hri]; rfl⟩
      have hle := hpre (i + 1)
      have hst := hstep i l hl
      rw [hst, List.length_append] at hle
      refine Run.walk hm Try.func74 100 ?_
      repeat' (first
        | ((with_reducible apply Onw.mk); conv => whnf)
        | (with_reducible first | apply Br.tt | apply Br.ff | apply Br.no)
        | ((with_reducible apply Br.t); · assumption)
        | ((with_reducible apply Br.f); · assumption)
        | ((with_reducible apply Br.dt); · exact ab_known)
        | ((with_reducible apply Br.df); · exact ab_known)
        | (with_reducible first | refine Br.dec (fun hc => ?_) (fun hc => ?_) | refine Br.mk (fun hc => ?_) (fun hc => ?_))
        | (refine PreP.mk hrp ?_)
        | (refine EqP.mk hri ?_)
        | ((with_reducible first | apply NeedRows.mk | apply NeedMap.mk | apply NeedIter.mk); · exact ab_look)
        | ((with_reducible apply NeedLen.mk); · first | assumption | rfl)
        | ((with_reducible apply NeedRow.mk); · exact ab_lookR)
        | ((with_reducible apply DrawG.mk (List.replicate 60 false)); · decide +kernel)
        | (with_reducible first | refine NewP.mk (fun id hid => ?_) | refine NilP.mk (fun e he => ?_))
        | (with_reducible first | exact trivial | exact And.intro rfl rfl)
        | ((with_reducible apply PreP.mk); · exact ab_asked)
        | refine Exists.intro _ (PreP.mk (bytesOf_lst _) ?_)
        | refine PreP.mk (lenD_lst _) ?_
        | (with_reducible first | refine PreP.mk ?_ ?_ | refine BothP.mk ?_ ?_)
        | ((with_reducible apply AncOr.anc); · decide +kernel)
        | with_reducible refine AncOr.go ?_)
      · exact appPre5 _ 0 _ l (by omega) (by omega) (by rw [List.length_map, List.length_map]; omega)
      refine AppTo.new (fun id2 hid2 => ?_)
      repeat' (first
        | ((with_reducible apply Onw.mk); conv => whnf)
        | (with_reducible first | apply Br.tt | apply Br.ff | apply Br.no)
        | ((with_reducible apply Br.t); · assumption)
        | ((with_reducible apply Br.f); · assumption)
        | ((with_reducible apply Br.dt); · exact ab_known)
        | ((with_reducible apply Br.df); · exact ab_known)
        | (with_reducible first | refine Br.dec (fun hc => ?_) (fun hc => ?_) | refine Br.mk (fun hc => ?_) (fun hc => ?_))
        | ((with_reducible first | apply NeedRows.mk | apply NeedMap.mk | apply NeedIter.mk); · exact ab_look)
        | ((with_reducible apply NeedLen.mk); · first | assumption | rfl)
        | ((with_reducible apply NeedRow.mk); · exact ab_lookR)
        | ((with_reducible apply DrawG.mk (List.replicate 60 false)); · decide +kernel)
        | (with_reducible first | refine NewP.mk (fun id hid => ?_) | refine NilP.mk (fun e he => ?_))
        | (with_reducible first | exact trivial | exact And.intro rfl rfl)
        | ((with_reducible apply PreP.mk); · exact ab_asked)
        | refine Exists.intro _ (PreP.mk (bytesOf_lst _) ?_)
        | refine PreP.mk (lenD_lst _) ?_
        | (with_reducible first | refine PreP.mk ?_ ?_ | refine BothP.mk ?_ ?_)
        | ((with_reducible apply AncOr.anc); · decide +kernel)
        | with_reducible refine AncOr.go ?_)
      refine Run.keep _ ?_ (ih2 (i + 1) _ _ (by omega) ⟨by omega, id2, rfl, ?_⟩)
      · rw [hst, List.length_append]
        exact ⟨congrArg (fun n => some (D.own id2 1 0 n none)) (by simp only [List.length_map]), rfl, rfl, slot64 (by omega) (by omega) (by omega), trivial⟩
      · rw [hst]
        refine hO.bytes hid2 ?_
        rw [byteRow_map, List.drop_zero, List.take_of_length_le (by rw [List.length_map]; exact Nat.le_refl _), byteRow_map, List.map_append]
    · obtain rfl : i = ls.length := by omega
      rw [List.take_length] at hrow hO ⊢
      refine Run.walk hm Try.func74 100 ?_
      repeat' (first
        | ((with_reducible apply Onw.mk); conv => whnf)
        | (with_reducible first | apply Br.tt | apply Br.ff | apply Br.no)
        | ((with_reducible apply Br.t); · assumption)
        | ((with_reducible apply Br.f); · assumption)
        | ((with_reducible apply Br.dt); · exact ab_known)
        | ((with_reducible apply Br.df); · exact ab_known)
        | (with_reducible first | refine Br.dec (fun hc => ?_) (fun hc => ?_) | refine Br.mk (fun hc => ?_) (fun hc => ?_))
        | ((with_reducible first | apply NeedRows.mk | apply NeedMap.mk | apply NeedIter.mk); · exact ab_look)
        | ((with_reducible apply NeedLen.mk); · first | assumption | rfl)
        | ((with_reducible apply NeedRow.mk); · exact ab_lookR)
        | ((with_reducible apply DrawG.mk (List.replicate 60 false)); · decide +kernel)
        | (with_reducible first | refine NewP.mk (fun id hid => ?_) | refine NilP.mk (fun e he => ?_))
        | (with_reducible first | exact trivial | exact And.intro rfl rfl)
        | ((with_reducible apply PreP.mk); · exact ab_asked)
        | refine Exists.intro _ (PreP.mk (bytesOf_lst _) ?_)
        | refine PreP.mk (lenD_lst _) ?_
        | (with_reducible first | refine PreP.mk ?_ ?_ | refine BothP.mk ?_ ?_)
        | ((with_reducible apply AncOr.anc); · decide +kernel)
        | with_reducible refine AncOr.go ?_)
      exact ⟨id, hO, rfl⟩
theorem c74 (H : Heap) (ls : List (List UInt8)) (hls : ls.length ≤ 1000) (hsz : ls.flatten.length ≤ 1000000) (h0 : 0 < ls.flatten.length) :
    CallOK Try.prog 74 [.p (.lst (ls.map lstP))] H (fun r H' => r = .p (.lst (ls.flatten.map byteRow)) ∧ H' = H) :=
  CallOK.ownL byteRow_one ((CallOK.of_spec (s74 H ls hls hsz h0)).mono fun r H' hr => by
    obtain ⟨id, hO, rfl⟩ := hr
    exact ⟨id, hO, by rw [List.length_map]⟩)
theorem s64 (H : Heap) (ls : List (List UInt8)) (hls : ls.length ≤ 1000) (hsz : ls.flatten.length ≤ 1000000) (h0 : 0 < ls.flatten.length) :
    Ab.Spec Try.prog 64 [.p (.lst (ls.map lstP))] H (fun r H' => r = .p (.lst (ls.flatten.map byteRow)) ∧ H' = H) := by
  refine Ab.Spec.walk hm Try.func64 (by kernel_rfl) 100 ?_
  repeat' (first
    | ((with_reducible apply Onw.mk); conv => whnf)
    | (with_reducible first | apply Br.tt | apply Br.ff | apply Br.no)
    | ((with_reducible apply Br.t); · assumption)
    | ((with_reducible apply Br.f); · assumption)
    | ((with_reducible apply Br.dt); · exact ab_known)
    | ((with_reducible apply Br.df); · exact ab_known)
    | (with_reducible first | refine Br.dec (fun hc => ?_) (fun hc => ?_) | refine Br.mk (fun hc => ?_) (fun hc => ?_))
    | ((with_reducible first | apply NeedRows.mk | apply NeedMap.mk | apply NeedIter.mk); · exact ab_look)
    | ((with_reducible apply NeedLen.mk); · first | assumption | rfl)
    | ((with_reducible apply NeedRow.mk); · exact ab_lookR)
    | ((with_reducible apply DrawG.mk (List.replicate 60 false)); · decide +kernel)
    | (with_reducible first | refine NewP.mk (fun id hid => ?_) | refine NilP.mk (fun e he => ?_))
    | (with_reducible first | exact trivial | exact And.intro rfl rfl)
    | ((with_reducible apply PreP.mk); · exact ab_asked)
    | refine Exists.intro _ (PreP.mk (bytesOf_lst _) ?_)
    | refine PreP.mk (lenD_lst _) ?_
    | (with_reducible first | refine PreP.mk ?_ ?_ | refine BothP.mk ?_ ?_)
    | ((with_reducible apply AncOr.anc); · decide +kernel)
    | with_reducible refine AncOr.go ?_)
  refine CallOK.go (c74 H ls hls hsz h0) (fun r H1 hr => ?_)
  obtain ⟨rfl, rfl⟩ := hr
  repeat' (first
    | ((with_reducible apply Onw.mk); conv => whnf)
    | (with_reducible first | apply Br.tt | apply Br.ff | apply Br.no)
    | ((with_reducible apply Br.t); · assumption)
    | ((with_reducible apply Br.f); · assumption)
    | ((with_reducible apply Br.dt); · exact ab_known)
    | ((with_reducible apply Br.df); · exact ab_known)
    | (with_reducible first | refine Br.dec (fun hc => ?_) (fun hc => ?_) | refine Br.mk (fun hc => ?_) (fun hc => ?_))
    | ((with_reducible first | apply NeedRows.mk | apply NeedMap.mk | apply NeedIter.mk); · exact ab_look)
    | ((with_reducible apply NeedLen.mk); · first | assumption | rfl)
    | ((with_reducible apply NeedRow.mk); · exact ab_lookR)
    | ((with_reducible apply DrawG.mk (List.replicate 60 false)); · decide +kernel)
    | (with_reducible first | refine NewP.mk (fun id hid => ?_) | refine NilP.mk (fun e he => ?_))
    | (with_reducible first | exact trivial | exact And.intro rfl rfl)
    | ((with_reducible apply PreP.mk); · exact ab_asked)
    | refine Exists.intro _ (PreP.mk (bytesOf_lst _) ?_)
    | refine PreP.mk (lenD_lst _) ?_
    | (with_reducible first | refine PreP.mk ?_ ?_ | refine BothP.mk ?_ ?_)
    | ((with_reducible apply AncOr.anc); · decide +kernel)
    | with_reducible refine AncOr.go ?_)
/-- A record's frame. -/
def frameL (s : List UInt8) : List UInt8 := putL s.length 4 ++ putL (sumS s) 4 ++ s
end Go.Proofs.Ytanknokhbfijdaa
