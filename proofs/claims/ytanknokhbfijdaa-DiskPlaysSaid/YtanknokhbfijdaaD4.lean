/- What functions of the disk, and of the laws over it, do. Conditions: those that each theorem names. -/
import Derived.Test.YtanknokhbfijdaaD3
set_option linter.unusedVariables false
set_option linter.unusedSimpArgs false
namespace Go.Proofs.Ytanknokhbfijdaa
open Go.Ab
set_option maxRecDepth 100000
set_option maxHeartbeats 1000000
attribute [local irreducible] Run CallOK DetCall Br PreP BothP AncOr Onw NeedRows NeedMap NeedRow NeedLen NilP NeedIter RoundP EntryP EqP OptP NewP NewSlice NewMade AppTo DrawG anc drawB

/-- The heap and the slice behind an append to a file's bytes. -/
def moreHB (H : Heap) (bd : D) (l b : List UInt8) : Heap × D :=
  match bd with
  | .own id _ _ len none => (setN H id .gone ++ [.rows ((l ++ b).map byteRowD)], .own H.length 1 0 (len + b.length) none)
  | .own id _ st _ (some _) => bif b.isEmpty then (H, .own id 1 st 0 (some 0)) else (H ++ [.rows (b.map byteRowD)], .own H.length 1 0 b.length none)
  | _ => (H ++ [.rows (b.map byteRowD)], .own H.length 1 0 b.length none)
def moreH (H : Heap) (f : Fl) (b : List UInt8) : Heap :=
  setN (moreHB H f.bd f.bytes b).1 f.fid (.rows [[(moreHB H f.bd f.bytes b).2, i64 f.kept]])

theorem nodup_part {α β : Type} {g : α → List β} {x : α} : ∀ {l : List α}, (l.flatMap g).Nodup → x ∈ l → (g x).Nodup
  | [], _, hx => by cases hx
  | y :: l, h, hx => by
    rw [List.flatMap_cons, List.nodup_append] at h
    rcases List.mem_cons.1 hx with rfl | hx
    · exact h.1
    · exact nodup_part h.2.1 hx
theorem DiskAt.f_b {H : Heap} {d : Nat} {k : Dk} (h : DiskAt H d k) {f : Fl} (hf : f ∈ k.files) {i : Nat} (hi : i ∈ idsB f.bd) : i ≠ f.fid := by
  have h1 := h.ids
  simp only [List.nodup_cons] at h1
  have h2 := nodup_part h1.2.2 hf
  exact fun e => (List.nodup_cons.1 h2).1 (e ▸ hi)
theorem appPre2 (n st : Nat) (rs : List (List D)) (b : List UInt8) (hb : b.length ≤ 100000) (hn : n ≤ 100000000) (hst : st + n ≤ rs.length) : (n + ((b.map byteRow).map (·.map D.p)).length) * 1 ≤ maxRoom ∧ n + ((b.map byteRow).map (·.map D.p)).length ≤ maxS ∧ (∀ r ∈ (b.map byteRow).map (·.map D.p), r.length = 1) ∧
    (∀ r ∈ (b.map byteRow).map (·.map D.p), ∀ d ∈ r, isOne d = true) ∧ st + n ≤ rs.length := by
  rw [rows_bytes, List.length_map]
  unfold maxRoom maxS
  refine ⟨by omega, by omega, fun r hr => ?_, fun r hr d hd => ?_, hst⟩
  · obtain ⟨x, _, rfl⟩ := List.mem_map.1 hr
    rfl
  · obtain ⟨x, _, rfl⟩ := List.mem_map.1 hr
    simp [byteRowD] at hd
    subst hd; rfl

theorem s16old (H : Heap) (d : Nat) (k : Dk) (name b : List UInt8) (f : Fl) (hn : name.length ≤ 1000) (hb : b.length ≤ 100000) (h : DiskAt H d k) (hs : 0 ≤ k.steps) (hs' : k.steps < 4611686018427387904) (hu : usedN k ≤ 4611686018427387904) (hl : lookF k name = some f)
    (hfl : f.bytes.length ≤ 100000000) :
    Ab.Spec Try.prog 16 [.ptr d 0 0, .p (.str name), .p (.lst (b.map byteRow))] H (fun r H' => r = i64 (appendE k name b) ∧ H' = bif appendE k name b == 0 then moreH (stepH H d k) f b else stepH H d k) := by
  have h0 := h.row
  have h2 := h.map
  have hne := h.d_m
  unfold dRow at h0
  have hf0 := lookF_mem hl
  refine Ab.Spec.walk hm Try.func16 (by kernel_rfl) 200 ?_
  repeat' (first
    | ((with_reducible apply Onw.mk); conv => whnf)
    | (with_reducible first | apply Br.tt | apply Br.ff | apply Br.no)
    | ((with_reducible apply Br.t); · assumption)
    | ((with_reducible apply Br.f); · assumption)
    | ((with_reducible apply Br.dt); · exact ab_known)
    | ((with_reducible apply Br.df); · exact ab_known)
    | (with_reducible first | refine Br.dec (fun hc => ?_) (fun hc => ?_) | refine Br.mk (fun hc => ?_) (fun hc => ?_))
    | ((with_reducible first | apply NeedRows.mk | apply NeedMap.mk | apply NeedIter.mk); · exact ab_look)
    | ((with_reducible apply NeedLen.mk); · first | assumption | rfl)
    | ((with_reducible apply NeedRow.mk); · exact ab_lookR)
    | ((with_reducible apply DrawG.mk (List.replicate 60 false)); · decide +kernel)
    | (with_reducible first | refine NewP.mk (fun id hid => ?_) | refine NilP.mk (fun e he => ?_))
    | (with_reducible first | exact trivial | exact And.intro rfl rfl)
    | ((with_reducible apply PreP.mk); · exact ab_asked)
    | refine Exists.intro _ (PreP.mk (bytesOf_lst _) ?_)
    | refine PreP.mk (lenD_lst _) ?_
    | (with_reducible first | refine PreP.mk ?_ ?_ | refine BothP.mk ?_ ?_)
    | ((with_reducible apply AncOr.anc); · decide +kernel)
    | with_reducible refine AncOr.go ?_)
  · exact ⟨keysOk_files k, rfl⟩
  rw [lookE_files, hl]
  refine OptP.some rfl ?_
  repeat' (first
    | ((with_reducible apply Onw.mk); conv => whnf)
    | (with_reducible first | apply Br.tt | apply Br.ff | apply Br.no)
    | ((with_reducible apply Br.t); · assumption)
    | ((with_reducible apply Br.f); · assumption)
    | ((with_reducible apply Br.dt); · exact ab_known)
    | ((with_reducible apply Br.df); · exact ab_known)
    | (with_reducible first | refine Br.dec (fun hc => ?_) (fun hc => ?_) | refine Br.mk (fun hc => ?_) (fun hc => ?_))
    | ((with_reducible first | apply NeedRows.mk | apply NeedMap.mk | apply NeedIter.mk); · exact ab_look)
    | ((with_reducible apply NeedLen.mk); · first | assumption | rfl)
    | ((with_reducible apply NeedRow.mk); · exact ab_lookR)
    | ((with_reducible apply DrawG.mk (List.replicate 60 false)); · decide +kernel)
    | (with_reducible first | refine NewP.mk (fun id hid => ?_) | refine NilP.mk (fun e he => ?_))
    | (with_reducible first | exact trivial | exact And.intro rfl rfl)
    | ((with_reducible apply PreP.mk); · exact ab_asked)
    | refine Exists.intro _ (PreP.mk (bytesOf_lst _) ?_)
    | refine PreP.mk (lenD_lst _) ?_
    | (with_reducible first | refine PreP.mk ?_ ?_ | refine BothP.mk ?_ ?_)
    | ((with_reducible apply AncOr.anc); · decide +kernel)
    | with_reducible refine AncOr.go ?_)
  refine CallOK.go (CallOK.of_spec (s46 _ _ _ _ _ h0 hs hs')) (fun r H1 hr => ?_)
  obtain ⟨hH1, rfl⟩ := hr
  have hk : DiskAt H1 d { k with steps := k.steps + 1 } := by rw [hH1]; exact h.setRow (k.steps + 1) k.off
  have hkr : nth H1 d = some (.rows [[i64 (k.steps + 1), i64 k.off, i64 k.quota, .mp k.mid]]) := hk.row
  have hkm : nth H1 k.mid = some (.map (k.files.map entF) k.bs k.ck) := hk.map
  have hkf := (hk.file f hf0).1
  have hkb := (hk.file f hf0).2
  have hlt := nth_lt hkm
  have hH1' : stepH H d k = H1 := hH1.symm
  rw [hH1']
  repeat' (first
    | ((with_reducible apply Onw.mk); conv => whnf)
    | (with_reducible first | apply Br.tt | apply Br.ff | apply Br.no)
    | ((with_reducible apply Br.t); · assumption)
    | ((with_reducible apply Br.f); · assumption)
    | ((with_reducible apply Br.dt); · exact ab_known)
    | ((with_reducible apply Br.df); · exact ab_known)
    | (with_reducible first | refine Br.dec (fun hc => ?_) (fun hc => ?_) | refine Br.mk (fun hc => ?_) (fun hc => ?_))
    | ((with_reducible first | apply NeedRows.mk | apply NeedMap.mk | apply NeedIter.mk); · exact ab_look)
    | ((with_reducible apply NeedLen.mk); · first | assumption | rfl)
    | ((with_reducible apply NeedRow.mk); · exact ab_lookR)
    | ((with_reducible apply DrawG.mk (List.replicate 60 false)); · decide +kernel)
    | (with_reducible first | refine NewP.mk (fun id hid => ?_) | refine NilP.mk (fun e he => ?_))
    | (with_reducible first | exact trivial | exact And.intro rfl rfl)
    | ((with_reducible apply PreP.mk); · exact ab_asked)
    | refine Exists.intro _ (PreP.mk (bytesOf_lst _) ?_)
    | refine PreP.mk (lenD_lst _) ?_
    | (with_reducible first | refine PreP.mk ?_ ?_ | refine BothP.mk ?_ ?_)
    | ((with_reducible apply AncOr.anc); · decide +kernel)
    | with_reducible refine AncOr.go ?_)
  · have e : appendE k name b = 212 := by simp [appendE, hc]
    rw [e]; exact ⟨rfl, rfl⟩
  refine CallOK.go (CallOK.of_spec (s47 name hn _)) (fun r H' hr => ?_)
  obtain ⟨rfl, rfl⟩ := hr
  repeat' (first
    | ((with_reducible apply Onw.mk); conv => whnf)
    | (with_reducible first | apply Br.tt | apply Br.ff | apply Br.no)
    | ((with_reducible apply Br.t); · assumption)
    | ((with_reducible apply Br.f); · assumption)
    | ((with_reducible apply Br.dt); · exact ab_known)
    | ((with_reducible apply Br.df); · exact ab_known)
    | (with_reducible first | refine Br.dec (fun hc => ?_) (fun hc => ?_) | refine Br.mk (fun hc => ?_) (fun hc => ?_))
    | (refine DetCall.go (c20 _ _ _ hk hu) ?_)
    | ((with_reducible first | apply NeedRows.mk | apply NeedMap.mk | apply NeedIter.mk); · exact ab_look)
    | ((with_reducible apply NeedLen.mk); · first | assumption | rfl)
    | ((with_reducible apply NeedRow.mk); · exact ab_lookR)
    | ((with_reducible apply DrawG.mk (List.replicate 60 false)); · decide +kernel)
    | (with_reducible first | refine NewP.mk (fun id hid => ?_) | refine NilP.mk (fun e he => ?_))
    | (with_reducible first | exact trivial | exact And.intro rfl rfl)
    | ((with_reducible apply PreP.mk); · exact ab_asked)
    | refine Exists.intro _ (PreP.mk (bytesOf_lst _) ?_)
    | refine PreP.mk (lenD_lst _) ?_
    | (with_reducible first | refine PreP.mk ?_ ?_ | refine BothP.mk ?_ ?_)
    | ((with_reducible apply AncOr.anc); · decide +kernel)
    | with_reducible refine AncOr.go ?_)
  · rename_i ho hnm
    have hnm' : okName name = true := hnm
    have hf : fullB k b.length true = true := by
      rw [List.length_map] at hc
      have : decide (IntKind.i64.wrap (k.quota - usedN k) < b.length) = true := decide_eq_true hc
      unfold fullB; rw [this]; rfl
    have e : appendE k name b = 211 := by simp [appendE, ho, hnm', hl, hf]
    rw [e]; exact ⟨rfl, rfl⟩
  · rename_i ho hnm
    have hnm' : okName name = true := hnm
    have hf : fullB k b.length true = false := by
      rw [List.length_map] at hc
      have h3 : decide (IntKind.i64.wrap (k.quota - usedN k) < b.length) = false := decide_eq_false hc
      unfold fullB; rw [h3]; rfl
    have e : appendE k name b = 0 := by simp [appendE, ho, hnm', hl, hf]
    rw [e]
    rcases hkb with ⟨hbd, hbl⟩ | ⟨id, hbd, hrow⟩ | ⟨id, st, rs, hbd, hbl, hrow⟩
    · rw [hbd] at hkf ⊢
      refine Onw.out ?_
      repeat' (first
        | ((with_reducible apply Onw.mk); conv => whnf)
        | (with_reducible first | apply Br.tt | apply Br.ff | apply Br.no)
        | ((with_reducible apply Br.t); · assumption)
        | ((with_reducible apply Br.f); · assumption)
        | ((with_reducible apply Br.dt); · exact ab_known)
        | ((with_reducible apply Br.df); · exact ab_known)
        | (with_reducible first | refine Br.dec (fun hc => ?_) (fun hc => ?_) | refine Br.mk (fun hc => ?_) (fun hc => ?_))
        | ((with_reducible first | apply NeedRows.mk | apply NeedMap.mk | apply NeedIter.mk); · exact ab_look)
        | ((with_reducible apply NeedLen.mk); · first | assumption | rfl)
        | ((with_reducible apply NeedRow.mk); · exact ab_lookR)
        | ((with_reducible apply DrawG.mk (List.replicate 60 false)); · decide +kernel)
        | (with_reducible first | refine NewP.mk (fun id hid => ?_) | refine NilP.mk (fun e he => ?_))
        | (with_reducible first | exact trivial | exact And.intro rfl rfl)
        | ((with_reducible apply PreP.mk); · exact ab_asked)
        | refine Exists.intro _ (PreP.mk (bytesOf_lst _) ?_)
        | refine PreP.mk (lenD_lst _) ?_
        | (with_reducible first | refine PreP.mk ?_ ?_ | refine BothP.mk ?_ ?_)
        | ((with_reducible apply AncOr.anc); · decide +kernel)
        | with_reducible refine AncOr.go ?_)
      · exact appPre b hb
      refine NewSlice.own (fun id2 hid2 => ?_)
      repeat' (first
        | ((with_reducible apply Onw.mk); conv => whnf)
        | (with_reducible first | apply Br.tt | apply Br.ff | apply Br.no)
        | ((with_reducible apply Br.t); · assumption)
        | ((with_reducible apply Br.f); · assumption)
        | ((with_reducible apply Br.dt); · exact ab_known)
        | ((with_reducible apply Br.df); · exact ab_known)
        | (with_reducible first | refine Br.dec (fun hc => ?_) (fun hc => ?_) | refine Br.mk (fun hc => ?_) (fun hc => ?_))
        | ((with_reducible first | apply NeedRows.mk | apply NeedMap.mk | apply NeedIter.mk); · exact ab_look)
        | ((with_reducible apply NeedLen.mk); · first | assumption | rfl)
        | ((with_reducible apply NeedRow.mk); · exact ab_lookR)
        | ((with_reducible apply DrawG.mk (List.replicate 60 false)); · decide +kernel)
        | (with_reducible first | refine NewP.mk (fun id hid => ?_) | refine NilP.mk (fun e he => ?_))
        | (with_reducible first | exact trivial | exact And.intro rfl rfl)
        | ((with_reducible apply PreP.mk); · exact ab_asked)
        | refine Exists.intro _ (PreP.mk (bytesOf_lst _) ?_)
        | refine PreP.mk (lenD_lst _) ?_
        | (with_reducible first | refine PreP.mk ?_ ?_ | refine BothP.mk ?_ ?_)
        | ((with_reducible apply AncOr.anc); · decide +kernel)
        | with_reducible refine AncOr.go ?_)
      have key : ∀ (rows : List (List D)) (n m : Nat), rows = b.map byteRowD → n = b.length → m = H'.length →
          setN (H' ++ [.rows rows]) f.fid (.rows [[.own m 1 0 n none, i64 f.kept]]) = moreH H' f b := by
        rintro _ _ _ rfl rfl rfl; simp [moreH, moreHB, hbd]
      exact ⟨rfl, key _ _ _ (rows_bytes b) (by simp) hid2⟩
    · rw [hbd] at hkf ⊢
      have hne4 : id ≠ f.fid := h.f_b hf0 (by rw [hbd]; simp [idsB])
      refine Onw.out ?_
      repeat' (first
        | ((with_reducible apply Onw.mk); conv => whnf)
        | (with_reducible first | apply Br.tt | apply Br.ff | apply Br.no)
        | ((with_reducible apply Br.t); · assumption)
        | ((with_reducible apply Br.f); · assumption)
        | ((with_reducible apply Br.dt); · exact ab_known)
        | ((with_reducible apply Br.df); · exact ab_known)
        | (with_reducible first | refine Br.dec (fun hc => ?_) (fun hc => ?_) | refine Br.mk (fun hc => ?_) (fun hc => ?_))
        | ((with_reducible first | apply NeedRows.mk | apply NeedMap.mk | apply NeedIter.mk); · exact ab_look)
        | ((with_reducible apply NeedLen.mk); · first | assumption | rfl)
        | ((with_reducible apply NeedRow.mk); · exact ab_lookR)
        | ((with_reducible apply DrawG.mk (List.replicate 60 false)); · decide +kernel)
        | (with_reducible first | refine NewP.mk (fun id hid => ?_) | refine NilP.mk (fun e he => ?_))
        | (with_reducible first | exact trivial | exact And.intro rfl rfl)
        | ((with_reducible apply PreP.mk); · exact ab_asked)
        | refine Exists.intro _ (PreP.mk (bytesOf_lst _) ?_)
        | refine PreP.mk (lenD_lst _) ?_
        | (with_reducible first | refine PreP.mk ?_ ?_ | refine BothP.mk ?_ ?_)
        | ((with_reducible apply AncOr.anc); · decide +kernel)
        | with_reducible refine AncOr.go ?_)
      · exact appPre2 _ 0 _ b hb hfl (by simp)
      refine AppTo.new (fun id2 hid2 => ?_)
      repeat' (first
        | ((with_reducible apply Onw.mk); conv => whnf)
        | (with_reducible first | apply Br.tt | apply Br.ff | apply Br.no)
        | ((with_reducible apply Br.t); · assumption)
        | ((with_reducible apply Br.f); · assumption)
        | ((with_reducible apply Br.dt); · exact ab_known)
        | ((with_reducible apply Br.df); · exact ab_known)
        | (with_reducible first | refine Br.dec (fun hc => ?_) (fun hc => ?_) | refine Br.mk (fun hc => ?_) (fun hc => ?_))
        | ((with_reducible first | apply NeedRows.mk | apply NeedMap.mk | apply NeedIter.mk); · exact ab_look)
        | ((with_reducible apply NeedLen.mk); · first | assumption | rfl)
        | ((with_reducible apply NeedRow.mk); · exact ab_lookR)
        | ((with_reducible apply DrawG.mk (List.replicate 60 false)); · decide +kernel)
        | (with_reducible first | refine NewP.mk (fun id hid => ?_) | refine NilP.mk (fun e he => ?_))
        | (with_reducible first | exact trivial | exact And.intro rfl rfl)
        | ((with_reducible apply PreP.mk); · exact ab_asked)
        | refine Exists.intro _ (PreP.mk (bytesOf_lst _) ?_)
        | refine PreP.mk (lenD_lst _) ?_
        | (with_reducible first | refine PreP.mk ?_ ?_ | refine BothP.mk ?_ ?_)
        | ((with_reducible apply AncOr.anc); · decide +kernel)
        | with_reducible refine AncOr.go ?_)
      have key : ∀ (rows : List (List D)) (n m : Nat), rows = (f.bytes ++ b).map byteRowD → n = f.bytes.length + b.length → m = H'.length →
          setN (setN H' id .gone ++ [.rows rows]) f.fid (.rows [[.own m 1 0 n none, i64 f.kept]]) = moreH H' f b := by
        rintro _ _ _ rfl rfl rfl; unfold moreH moreHB; rw [hbd]
      exact ⟨rfl, key _ _ _ (by rw [rows_bytes, List.drop_zero, List.take_of_length_le (by simp), List.map_append]) (by simp) hid2⟩
    · rw [hbd] at hkf ⊢
      have hne4 : id ≠ f.fid := h.f_b hf0 (by rw [hbd]; simp [idsB])
      have hrow1 := hrow.1
      refine Onw.out ?_
      repeat' (first
        | ((with_reducible apply Onw.mk); conv => whnf)
        | (with_reducible first | apply Br.tt | apply Br.ff | apply Br.no)
        | ((with_reducible apply Br.t); · assumption)
        | ((with_reducible apply Br.f); · assumption)
        | ((with_reducible apply Br.dt); · exact ab_known)
        | ((with_reducible apply Br.df); · exact ab_known)
        | (with_reducible first | refine Br.dec (fun hc => ?_) (fun hc => ?_) | refine Br.mk (fun hc => ?_) (fun hc => ?_))
        | ((with_reducible first | apply NeedRows.mk | apply NeedMap.mk | apply NeedIter.mk); · exact ab_look)
        | ((with_reducible apply NeedLen.mk); · first | assumption | rfl)
        | ((with_reducible apply NeedRow.mk); · exact ab_lookR)
        | ((with_reducible apply DrawG.mk (List.replicate 60 false)); · decide +kernel)
        | (with_reducible first | refine NewP.mk (fun id hid => ?_) | refine NilP.mk (fun e he => ?_))
        | (with_reducible first | exact trivial | exact And.intro rfl rfl)
        | ((with_reducible apply PreP.mk); · exact ab_asked)
        | refine Exists.intro _ (PreP.mk (bytesOf_lst _) ?_)
        | refine PreP.mk (lenD_lst _) ?_
        | (with_reducible first | refine PreP.mk ?_ ?_ | refine BothP.mk ?_ ?_)
        | ((with_reducible apply AncOr.anc); · decide +kernel)
        | with_reducible refine AncOr.go ?_)
      · exact appPre2 0 st rs b hb (by omega) (by simpa using hrow.2)
      refine AppTo.cap (fun hle => ?_) (fun hgt id2 hid2 => ?_)
      · have hb0 : b = [] := by simpa using hle
        subst hb0
        repeat' (first
          | ((with_reducible apply Onw.mk); conv => whnf)
          | (with_reducible first | apply Br.tt | apply Br.ff | apply Br.no)
          | ((with_reducible apply Br.t); · assumption)
          | ((with_reducible apply Br.f); · assumption)
          | ((with_reducible apply Br.dt); · exact ab_known)
          | ((with_reducible apply Br.df); · exact ab_known)
          | (with_reducible first | refine Br.dec (fun hc => ?_) (fun hc => ?_) | refine Br.mk (fun hc => ?_) (fun hc => ?_))
          | ((with_reducible first | apply NeedRows.mk | apply NeedMap.mk | apply NeedIter.mk); · exact ab_look)
          | ((with_reducible apply NeedLen.mk); · first | assumption | rfl)
          | ((with_reducible apply NeedRow.mk); · exact ab_lookR)
          | ((with_reducible apply DrawG.mk (List.replicate 60 false)); · decide +kernel)
          | (with_reducible first | refine NewP.mk (fun id hid => ?_) | refine NilP.mk (fun e he => ?_))
          | (with_reducible first | exact trivial | exact And.intro rfl rfl)
          | ((with_reducible apply PreP.mk); · exact ab_asked)
          | refine Exists.intro _ (PreP.mk (bytesOf_lst _) ?_)
          | refine PreP.mk (lenD_lst _) ?_
          | (with_reducible first | refine PreP.mk ?_ ?_ | refine BothP.mk ?_ ?_)
          | ((with_reducible apply AncOr.anc); · decide +kernel)
          | with_reducible refine AncOr.go ?_)
        have key : ∀ (rows : List (List D)), rows = rs → setN (setN H' id (.rows rows)) f.fid (.rows [[.own id 1 st 0 (some 0), i64 f.kept]]) = moreH H' f [] := by
          rintro _ rfl; rw [setN_self hrow.1]; simp [moreH, moreHB, hbd]
        exact ⟨rfl, key _ (by simp)⟩
      · repeat' (first
        | ((with_reducible apply Onw.mk); conv => whnf)
        | (with_reducible first | apply Br.tt | apply Br.ff | apply Br.no)
        | ((with_reducible apply Br.t); · assumption)
        | ((with_reducible apply Br.f); · assumption)
        | ((with_reducible apply Br.dt); · exact ab_known)
        | ((with_reducible apply Br.df); · exact ab_known)
        | (with_reducible first | refine Br.dec (fun hc => ?_) (fun hc => ?_) | refine Br.mk (fun hc => ?_) (fun hc => ?_))
        | ((with_reducible first | apply NeedRows.mk | apply NeedMap.mk | apply NeedIter.mk); · exact ab_look)
        | ((with_reducible apply NeedLen.mk); · first | assumption | rfl)
        | ((with_reducible apply NeedRow.mk); · exact ab_lookR)
        | ((with_reducible apply DrawG.mk (List.replicate 60 false)); · decide +kernel)
        | (with_reducible first | refine NewP.mk (fun id hid => ?_) | refine NilP.mk (fun e he => ?_))
        | (with_reducible first | exact trivial | exact And.intro rfl rfl)
        | ((with_reducible apply PreP.mk); · exact ab_asked)
        | refine Exists.intro _ (PreP.mk (bytesOf_lst _) ?_)
        | refine PreP.mk (lenD_lst _) ?_
        | (with_reducible first | refine PreP.mk ?_ ?_ | refine BothP.mk ?_ ?_)
        | ((with_reducible apply AncOr.anc); · decide +kernel)
        | with_reducible refine AncOr.go ?_)
        have key : ∀ (rows : List (List D)) (n m : Nat), rows = b.map byteRowD → n = b.length → m = H'.length →
            setN (H' ++ [.rows rows]) f.fid (.rows [[.own m 1 0 n none, i64 f.kept]]) = moreH H' f b := by
          rintro _ _ _ rfl rfl rfl
          have hb0 : b.isEmpty = false := by cases b <;> simp_all
          simp [moreH, moreHB, hbd, hb0]
        exact ⟨rfl, key _ _ _ (by rw [rows_bytes]; simp) (by simp) hid2⟩
  · rename_i ho
    have hnm' : okName name = false := hc
    have e : appendE k name b = 210 := by simp [appendE, ho, hnm']
    rw [e]; exact ⟨rfl, rfl⟩
end Go.Proofs.Ytanknokhbfijdaa
