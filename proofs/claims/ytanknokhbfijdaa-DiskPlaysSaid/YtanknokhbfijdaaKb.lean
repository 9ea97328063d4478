/- The abstract machine: calls, loops, regions whose order is drawn; proved sound. No conditions. -/
import Derived.Test.YtanknokhbfijdaaKa
import Derived.Laws.StructEq
import Derived.Maps.RangeRun
import Derived.WalkSpells
import Derived.Orders
set_option linter.unusedVariables false
set_option linter.unusedSimpArgs false
/-
  Each operation does what the abstract machine says: maps.
-/
namespace Go.Ab
variable {M : Mem} {env : List Blk} {H : Heap} {w w' : World} {Pr : Program} {g : G}

/-- Entries of a map, told and held. -/
def EntsR (M : Mem) (env : List Blk) (es : List (P × D)) (ents : List MapEntry) : Prop :=
  es.length = ents.length ∧ ∀ (i : Nat) (k : P) (d : D) (m : MapEntry), es[i]? = some (k, d) → ents[i]? = some m → RdP M k m.key ∧ RdD M env d m.val

theorem EntsR.cons_inv {e : P × D} {es : List (P × D)} {ents : List MapEntry} (h : EntsR M env (e :: es) ents) : ∃ m ms, ents = m :: ms ∧ RdP M e.1 m.key ∧ RdD M env e.2 m.val ∧ EntsR M env es ms := by
  obtain ⟨hl, h⟩ := h
  cases ents with
  | nil => simp at hl
  | cons m ms =>
    have := h 0 e.1 e.2 m rfl rfl
    exact ⟨m, ms, rfl, this.1, this.2, by simpa using hl, fun i k d m' h1 h2 => h (i + 1) k d m' (by simpa using h1) (by simpa using h2)⟩

/-- The kind of a key's type. -/
theorem key_cases {td : TypeDesc} {k : P} (h : keyOk (tkOf td) k = true) : (∃ kk n, td = .int kk ∧ k = .int kk n) ∨ (∃ l, td = .string ∧ k = .str l) := by
  unfold keyOk at h
  split at h
  · rename_i kk kk' n htk
    have := of_decide_eq_true h
    subst this
    exact .inl ⟨kk, n, tk_int htk, rfl⟩
  · rename_i l htk
    exact .inr ⟨l, tk_str htk, rfl⟩
  · cases h

theorem sameNow_ok {td : TypeDesc} {k k' : P} {v v' : Value} (hk : keyOk (tkOf td) k = true) (hk' : keyOk (tkOf td) k' = true) (h : RdP M k v) (h' : RdP M k' v') :
    Instr.sameNow td v v' = some (keyEq k k' == some true) := by
  rcases key_cases hk with ⟨kk, n, rfl, rfl⟩ | ⟨l, rfl, rfl⟩
  · rcases key_cases hk' with ⟨kk', n', h1, rfl⟩ | ⟨l', h1, rfl⟩
    · simp at h1; subst h1
      cases h; cases h'
      by_cases hn : n = n' <;> simp [Instr.sameNow, keyEq, hn]
    · cases h1
  · rcases key_cases hk' with ⟨kk', n', h1, rfl⟩ | ⟨l', h1, rfl⟩
    · cases h1
    · cases h with
      | str h =>
      cases h' with
      | str h' =>
      rename_i s s'
      subst h; subst h'
      simp only [Instr.sameNow, keyEq, beq_toListBytes, bl_eq, beq_decL]
      by_cases hn : s.data.toList = s'.data.toList <;> simp [hn]

theorem findNow_ok {td : TypeDesc} {k : P} {v : Value} (hk : keyOk (tkOf td) k = true) (h : RdP M k v) (d : D) : ∀ {es : List (P × D)} {ents : List MapEntry}, EntsR M env es ents → keysOk (tkOf td) es → ∀ n,
    (Instr.findNow td v ents n = some none ∧ lookE es k = none ∧ updE es k d = es ++ [(k, d)] ∧ delE es k = es ∧ ∀ bs, delB es k bs = bs) ∨
    (∃ (q : Nat) (x : D) (u : Value), Instr.findNow td v ents n = some (some (n + q, u)) ∧ q < es.length ∧ lookE es k = some x ∧ RdD M env x u ∧ updE es k d = es.set q (k, d) ∧ delE es k = es.eraseIdx q ∧ (∀ bs : List Nat, bs.length = es.length → delB es k bs = bs.eraseIdx q) ∧
      ∃ k', es[q]? = some (k', x) ∧ keyEq k k' = some true)
  | [], ents, hes, _, n => by
    have : ents = [] := List.length_eq_zero_iff.1 (by simpa using hes.1.symm)
    subst this
    exact .inl ⟨rfl, rfl, rfl, rfl, fun bs => by simp [delB]⟩
  | e :: es, ents, hes, hks, n => by
    obtain ⟨m, ms, rfl, h1, h2, h3⟩ := hes.cons_inv
    have hs := sameNow_ok hk (hks e (by simp)) h h1
    cases hkey : isKey k e with
    | true =>
      refine .inr ⟨0, e.2, m.val, ?_, by simp, by simp [lookE, hkey], h2, by simp [updE, hkey], by simp [delE, hkey], fun bs hb => (by cases bs with | nil => (simp at hb) | cons b bs => simp [delB, hkey]), e.1, rfl, ?_⟩
      · unfold isKey at hkey
        simp only [Instr.findNow, hs, hkey, Nat.add_zero]
      · unfold isKey at hkey; simpa using hkey
    | false =>
      have hs' : Instr.sameNow td v m.key = some false := by unfold isKey at hkey; rw [hs, hkey]
      rcases findNow_ok hk h d h3 (fun e he => hks e (by simp [he])) (n + 1) with ⟨a1, a2, a3, a4, a9⟩ | ⟨q, x, u, a1, a2, a3, a4, a5, a6, a9, k', a7, a8⟩
      · exact .inl ⟨by simp [Instr.findNow, hs', a1], by simp [lookE, hkey, a2], by simp [updE, hkey, a3], by simp [delE, hkey, a4], fun bs => by cases bs <;> simp [delB, hkey, a9]⟩
      · exact .inr ⟨q + 1, x, u, by simp [Instr.findNow, hs', a1]; omega, by simp; omega, by simp [lookE, hkey, a3], a4, by simp [updE, hkey, a5], by simp [delE, hkey, a6], fun bs hb => (by cases bs with | nil => (simp at hb) | cons b bs => simp [delB, hkey, a9 bs (by simpa using hb)]), k', by simpa using a7, a8⟩

theorem run_checkKey {t : TypeId} {td : TypeDesc} (hu : Pr.underlying t = some td) {k : P} {v : Value} (hk : keyOk (tkOf td) k = true) (h : RdP M k v) (b : Bool) : (Instr.checkKey b 10000 t v).run Pr w = .ok () w := by
  have : ∀ n, (Instr.checkKey b (n + 1) t v).run Pr w = .ok () w := by
    intro n
    rcases key_cases hk with ⟨kk, n', rfl, rfl⟩ | ⟨l, rfl, rfl⟩
    · cases h; simp only [Instr.checkKey, Sem.run_bind, run_underlying hu, Result.andThen_ok]; rfl
    · cases h; simp only [Instr.checkKey, Sem.run_bind, run_underlying hu, Result.andThen_ok]; rfl
  exact this 9999

theorem map_obj {id : Nat} {blk : Blk} {es : List (P × D)} {b : Nat} (h : SimH M env H w) (he : env[id]? = some blk) {bs : List Nat} {ck : Nat} (ho : H[id]? = some (.map es bs ck)) (hb : blk.b = some b) :
    ∃ (ents : Array MapEntry) (clock : Nat), w.heap[b]? = some (.map ents clock) ∧ EntsR M env es ents.toList ∧ (getObj b).run Pr w = .ok (.map ents clock) w ∧ clock = ck ∧ bs = ents.toList.map (·.born) := by
  obtain ⟨b', hb', ents, h1, h2, h4, h3⟩ := h.obj id blk _ he ho
  rw [hb] at hb'; simp at hb'; subst hb'
  exact ⟨ents, ck, h1, ⟨by simpa using h2, fun i k d m q1 q2 => h3 i k d m q1 (by simpa using q2)⟩, by simp [getObj, Sem.run, h1], rfl, h4⟩

theorem lookup_ok {t kt et : TypeId} {ti ki ei : TI} (ht : tyOf Pr t = some ti) (htk : ti.tk = .map kt et) (hkt : tyOf Pr kt = some ki) (het : tyOf Pr et = some ei) (h : StH g H M env w) {m k : D} {v y : Value}
    (hm : RdD M env m v) (hk : RdD M env k y) (ok : Bool) : OpOK Pr g M env w ((asVal (Instr.lookup t v y ok)).run Pr w) (opLookup ki.tk ei.zero m k ok H) := by
  obtain ⟨ti', td, tz, hti, htu, htz, rfl⟩ := tyOf_spec ht
  simp only [] at htk
  obtain rfl := tk_map htk
  obtain ⟨kinf, ktd, kz, hkinf, hku, hkz, rfl⟩ := tyOf_spec hkt
  obtain ⟨einf, etd, ez, heinf, heu, hez, rfl⟩ := tyOf_spec het
  unfold opLookup
  split
  · rename_i id k
    split
    · rename_i es bs ck hH
      rw [nth_eq] at hH
      refine OpOK.pre ?_
      rintro ⟨q1, q2⟩
      cases hm with
      | mp hen hb =>
        rename_i blk b
        cases hk with
        | p hk =>
        obtain ⟨ents, clock, h1, h2, h3, hck1, hbs⟩ := map_obj (Pr := Pr) h.sim hen hH hb
        have hck := run_checkKey (w := w) hku q2 hk
        rcases findNow_ok q2 hk (.p .undef) h2 q1 0 with ⟨a1, a2, _, _, _⟩ | ⟨q, x, u, a1, _, a3, a4, _, _, _, _⟩
        · rw [a2]
          cases ok with
          | true =>
            refine OpOK.same h (v := .tuple #[ez, .bool false]) ?_ (.tup (by simp) (fun i c x c1 c2 => ?_))
            · simp [Instr.lookup, run_underlying htu, h3, hck, Instr.findKey, run_underlying hku, a1, run_zeroValue heinf hez]
            · match i with
              | 0 => simp at c1 c2; subst c1; subst c2; exact .p (RdP_constP ez)
              | 1 => simp at c1 c2; subst c1; subst c2; exact .p .bool
              | i + 2 => simp at c1
          | false =>
            refine OpOK.same h (v := ez) ?_ (.p (RdP_constP ez))
            simp [Instr.lookup, run_underlying htu, h3, hck, Instr.findKey, run_underlying hku, a1, run_zeroValue heinf hez]
        · rw [a3]
          cases ok with
          | true =>
            refine OpOK.same h (v := .tuple #[u, .bool true]) ?_ (.tup (by simp) (fun i c x c1 c2 => ?_))
            · simp [Instr.lookup, run_underlying htu, h3, hck, Instr.findKey, run_underlying hku, a1]
            · match i with
              | 0 => simp at c1 c2; subst c1; subst c2; exact a4
              | 1 => simp at c1 c2; subst c1; subst c2; exact .p .bool
              | i + 2 => simp at c1
          | false =>
            refine OpOK.same h (v := u) ?_ a4
            simp [Instr.lookup, run_underlying htu, h3, hck, Instr.findKey, run_underlying hku, a1]
    · trivial
  · trivial

theorem EntsR.append {es : List (P × D)} {ents : List MapEntry} (h : EntsR M env es ents) {k : P} {d : D} {m : MapEntry} (hk : RdP M k m.key) (hd : RdD M env d m.val) : EntsR M env (es ++ [(k, d)]) (ents ++ [m]) := by
  refine ⟨by simp [h.1], fun i k' d' m' h1 h2 => ?_⟩
  have hl := h.1
  rcases append_get_new h1 with ⟨q1, hi⟩ | ⟨hi, e1⟩ <;> rcases append_get_new h2 with ⟨q2, hj⟩ | ⟨hj, e2⟩ <;> try omega
  · exact h.2 i k' d' m' q1 q2
  · simp at e1; obtain ⟨rfl, rfl⟩ := e1; subst e2; exact ⟨hk, hd⟩
theorem EntsR.set {es : List (P × D)} {ents : List MapEntry} (h : EntsR M env es ents) {k : P} {d : D} {m : MapEntry} (hk : RdP M k m.key) (hd : RdD M env d m.val) (q : Nat) : EntsR M env (es.set q (k, d)) (ents.set q m) := by
  refine ⟨by simp [h.1], fun i k' d' m' h1 h2 => ?_⟩
  have hl := h.1
  by_cases hq : q = i
  · subst hq
    have hlt : q < es.length := by have := get_lt h1; simpa using this
    rw [List.getElem?_set_self hlt] at h1
    rw [List.getElem?_set_self (by omega)] at h2
    simp at h1 h2
    obtain ⟨rfl, rfl⟩ := h1; subst h2; exact ⟨hk, hd⟩
  · rw [List.getElem?_set_ne hq] at h1 h2
    exact h.2 i k' d' m' h1 h2
theorem EntsR.erase {es : List (P × D)} {ents : List MapEntry} (h : EntsR M env es ents) (q : Nat) : EntsR M env (es.eraseIdx q) (ents.eraseIdx q) := by
  refine ⟨by simp [List.length_eraseIdx, h.1], fun i k' d' m' h1 h2 => ?_⟩
  rw [List.getElem?_eraseIdx] at h1 h2
  split at h1
  · rename_i hi; rw [if_pos hi] at h2; exact h.2 _ k' d' m' h1 h2
  · rename_i hi; rw [if_neg hi] at h2; exact h.2 _ k' d' m' h1 h2

theorem setObj_run {b : Nat} {o o' : Go.Obj} (h : w.heap[b]? = some o) (hn : ∀ c e f, o ≠ .cells c e f) : (setObj b o').run Pr w = .ok () { w with heap := w.heap.setIfInBounds b o' } := by
  cases o <;> first | (exact absurd rfl (hn _ _ _)) | simp [setObj, Sem.run, h]

theorem setObj_st {id : Nat} {blk : Blk} {es es' : List (P × D)} {b : Nat} {ents ents' : Array MapEntry} {c c' : Nat} (h : StH g H M env w) (hen : env[id]? = some blk) {bs bs' : List Nat} {ck : Nat} (hH : H[id]? = some (.map es bs ck)) (hb : blk.b = some b)
    (h1 : w.heap[b]? = some (.map ents c)) (h2 : EntsR M env es' ents'.toList) (hbs : bs' = ents'.toList.map (·.born)) : StH g (H.set id (.map es' bs' c')) M env { w with heap := w.heap.setIfInBounds b (.map ents' c') } := by
  have hlt := heap_lt h1
  refine h.set hen hH rfl hb (by simp) (fun b' hb' => ?_) ⟨b, hb, ents', ?_, by simpa using h2.1, hbs, fun i k d m q1 q2 => h2.2 i k d m q1 (by simpa using q2)⟩
  · show (w.heap.setIfInBounds b _)[b']? = _
    rw [Array.getElem?_setIfInBounds, if_neg (fun e => hb' e.symm)]
  · show (w.heap.setIfInBounds b _)[b]? = _
    rw [Array.getElem?_setIfInBounds, if_pos rfl, if_pos hlt]

theorem sameBits_key {td : TypeDesc} {k k' : P} {v v' : Value} (hk : keyOk (tkOf td) k = true) (hk' : keyOk (tkOf td) k' = true) (h : RdP M k v) (h' : RdP M k' v') (he : keyEq k k' = some true) : ∀ n, Instr.sameBits n v' v = true := by
  intro n
  rcases key_cases hk with ⟨kk, n, rfl, rfl⟩ | ⟨l, rfl, rfl⟩
  · rcases key_cases hk' with ⟨kk', n', h1, rfl⟩ | ⟨l', h1, rfl⟩
    · simp at h1; subst h1
      cases h; cases h'
      simp [keyEq] at he
      simp [Instr.sameBits, he]
    · cases h1
  · rcases key_cases hk' with ⟨kk', n', h1, rfl⟩ | ⟨l', h1, rfl⟩
    · cases h1
    · cases h with
      | str h =>
      cases h' with
      | str h' =>
      subst h; subst h'
      simp only [keyEq, Option.some.injEq, decide_eq_true_eq] at he
      simp [Instr.sameBits, beq_toListBytes, bl_eq, he]

theorem mapUpdate_ok {t kt et : TypeId} {ti ki : TI} (ht : tyOf Pr t = some ti) (htk : ti.tk = .map kt et) (hkt : tyOf Pr kt = some ki) (h : StH g H M env w) {m k x : D} {v y z : Value}
    (hm : RdD M env m v) (hk : RdD M env k y) (hx : RdD M env x z) : OpOK Pr g M env w ((asUnit (Instr.mapUpdate t v y z)).run Pr w) (opMapUpdate ki.tk m k x H) := by
  obtain ⟨ti', td, tz, hti, htu, htz, rfl⟩ := tyOf_spec ht
  simp only [] at htk
  obtain rfl := tk_map htk
  obtain ⟨kinf, ktd, kz, hkinf, hku, hkz, rfl⟩ := tyOf_spec hkt
  unfold opMapUpdate
  split
  · rename_i id k
    split
    · rename_i es bs ck hH
      rw [nth_eq] at hH
      refine OpOK.pre ?_
      rintro ⟨q1, q2⟩
      rw [setN_eq]
      cases hm with
      | mp hen hb =>
        rename_i blk b
        cases hk with
        | p hk =>
        obtain ⟨ents, clock, h1, h2, h3, hck1, hbs⟩ := map_obj (Pr := Pr) h.sim hen hH hb
        have hck := run_checkKey (w := w) hku q2 hk
        rcases findNow_ok q2 hk x h2 q1 0 with ⟨a1, al, a3, _, _⟩ | ⟨q, xo, u, a1, a2, al, _, a5, _, _, k', a7, a8⟩
        · subst hck1
          rw [a3, show updB es k bs clock = bs ++ [clock] by simp [updB, al], show updC es k clock = clock + 1 by simp [updC, al]]
          refine OpOK.unit (w' := { w with heap := w.heap.setIfInBounds b (.map (ents.push { key := y, val := z, born := clock }) (clock + 1)) }) ?_ (setObj_st h hen hH hb h1 ?_ (by rw [hbs]; simp))
          · simp [Instr.mapUpdate, run_underlying htu, h3, hck, Instr.findKey, run_underlying hku, a1, setObj_run h1]
          · rw [Array.toList_push]; exact h2.append hk hx
        · subst hck1
          rw [a5, show updB es k bs clock = bs by simp [updB, al], show updC es k clock = clock by simp [updC, al]]
          have hlt : q < ents.size := by have := h2.1; simp at this; omega
          have hq : ents[q]? = some ents[q] := Array.getElem?_eq_getElem hlt
          have hkk := (h2.2 q k' xo ents[q] a7 (by simp [hq])).1
          have hsb := sameBits_key q2 (q1 _ (List.mem_of_getElem? a7)) hk hkk a8 10000
          refine OpOK.unit (w' := { w with heap := w.heap.setIfInBounds b (.map (ents.modify q fun e => { e with key := y, val := z }) clock) }) ?_ (setObj_st h hen hH hb h1 ?_ ?_)
          · simp [Instr.mapUpdate, run_underlying htu, h3, hck, Instr.findKey, run_underlying hku, a1, hq, Instr.keyThatStays, hsb, setObj_run h1]
          · have e1 : (ents.modify q fun e => { e with key := y, val := z }).toList = ents.toList.set q { ents[q] with key := y, val := z } := by
              apply List.ext_getElem?
              intro j
              rw [Array.getElem?_toList, Array.getElem?_modify]
              by_cases hj : q = j
              · subst hj
                rw [if_pos rfl, List.getElem?_set_self (by simpa using hlt), hq]; rfl
              · rw [if_neg hj, List.getElem?_set_ne hj, Array.getElem?_toList]
            rw [e1]
            exact h2.set hk hx q
          · rw [hbs]
            apply List.ext_getElem?
            intro j
            rw [List.getElem?_map, List.getElem?_map, Array.getElem?_toList, Array.getElem?_toList, Array.getElem?_modify]
            by_cases hj : q = j
            · subst hj
              rw [if_pos rfl, hq]; rfl
            · rw [if_neg hj]
    · trivial
  · trivial

theorem delete_ok {t ty kt et : TypeId} {ts : Array TypeId} {ti ki : TI} (hts : ts[0]? = some t) (ht : tyOf Pr t = some ti) (htk : ti.tk = .map kt et) (hkt : tyOf Pr kt = some ki) (h : StH g H M env w) {m k : D} {v y : Value}
    (hm : RdD M env m v) (hk : RdD M env k y) : OpOK Pr g M env w ((asVal (Builtin.delete_ ts ty #[v, y])).run Pr w) (opDelete ki.tk m k H) := by
  obtain ⟨ti', td, tz, hti, htu, htz, rfl⟩ := tyOf_spec ht
  simp only [] at htk
  obtain rfl := tk_map htk
  obtain ⟨kinf, ktd, kz, hkinf, hku, hkz, rfl⟩ := tyOf_spec hkt
  unfold opDelete
  split
  · rename_i id k
    split
    · rename_i es bs ck hH
      rw [nth_eq] at hH
      refine OpOK.pre ?_
      rintro ⟨q1, q2⟩
      rw [setN_eq]
      cases hm with
      | mp hen hb =>
        rename_i blk b
        cases hk with
        | p hk =>
        obtain ⟨ents, clock, h1, h2, h3, hck1, hbs⟩ := map_obj (Pr := Pr) h.sim hen hH hb
        have hck := fun bb => run_checkKey (w := w) hku q2 hk bb
        rcases findNow_ok q2 hk (.p .undef) h2 q1 0 with ⟨a1, _, _, a4, a9⟩ | ⟨q, xo, u, a1, a2, _, _, _, a6, a9, k', a7, a8⟩
        · subst hck1
          rw [a4, a9]
          refine OpOK.move (v := .tuple #[]) (w' := { w with heap := w.heap.setIfInBounds b (.map ents clock) }) ?_ (Ext.refl _ _) (setObj_st h hen hH hb h1 h2 hbs) (.tup rfl (fun i c x c1 => by simp at c1))
          simp [Builtin.delete_, hts, run_underlying htu, h3, hck, Instr.findKey, run_underlying hku, a1, setObj_run h1]
        · subst hck1
          rw [a6, a9 bs (by rw [hbs]; simpa using h2.1.symm)]
          refine OpOK.move (v := .tuple #[]) (w' := { w with heap := w.heap.setIfInBounds b (.map (ents.eraseIdxIfInBounds q) clock) }) ?_ (Ext.refl _ _) (setObj_st h hen hH hb h1 ?_ ?_) (.tup rfl (fun i c x c1 => by simp at c1))
          · simp [Builtin.delete_, hts, run_underlying htu, h3, hck, Instr.findKey, run_underlying hku, a1, setObj_run h1]
          · have hlt : q < ents.size := by have := h2.1; simp at this; omega
            have : (ents.eraseIdxIfInBounds q).toList = ents.toList.eraseIdx q := by
              simp [Array.eraseIdxIfInBounds, hlt]
            rw [this]
            exact h2.erase q
          · have hlt : q < ents.size := by have := h2.1; simp at this; omega
            have : (ents.eraseIdxIfInBounds q).toList = ents.toList.eraseIdx q := by
              simp [Array.eraseIdxIfInBounds, hlt]
            rw [this, hbs]
            apply List.ext_getElem?
            intro j
            rw [List.getElem?_map, List.getElem?_eraseIdx, List.getElem?_eraseIdx]
            split <;> rw [List.getElem?_map]
    · trivial
  · trivial
end Go.Ab
/-
  Each operation does what the abstract machine says: copy.
-/
namespace Go.Ab
variable {M : Mem} {env : List Blk} {H : Heap} {w w' : World} {Pr : Program} {g : G}

theorem flatten_take {α : Type} {k : Nat} : ∀ {rs : List (List α)}, (∀ r ∈ rs, r.length = k) → ∀ n : Nat, (rs.take n).flatten = rs.flatten.take (n * k)
  | [], _, n => by simp
  | r :: rs, h, 0 => by simp
  | r :: rs, h, n + 1 => by
    have hr := h r (by simp)
    rw [List.take_succ_cons, List.flatten_cons, List.flatten_cons, flatten_take (fun x hx => h x (by simp [hx])) n, List.take_append, hr]
    rw [List.take_of_length_le (l := r) (by rw [hr, Nat.add_mul]; omega), Nat.add_mul, Nat.one_mul, Nat.add_sub_cancel]
theorem RdL.take {ds : List D} {vs : List Value} (h : RdL M env ds vs) (n : Nat) : RdL M env (ds.take n) (vs.take n) := by
  refine ⟨by simp [h.1], fun j d x h1 h2 => ?_⟩
  rw [List.getElem?_take] at h1 h2
  split at h1
  · rename_i hj
    rw [if_pos hj] at h2
    exact h.2 j d x h1 h2
  · cases h1
/-- The first rows of what is copied. -/
theorem src_take {u : TypeId} {ui : TI} (hu : tyOf Pr u = some ui) {size : Nat} (h : SimH M env H w) {x : D} {v : Value} (hx : RdD M env x v) {xs : List (List D)} (ha : appended ui.tk x H = some xs) (hl : appLen x xs)
    (hk : ∀ r ∈ xs, r.length = size) {n : Nat} (hn : n ≤ xs.length) (hstr : ui.tk ≠ .str) :
    ∃ news, RdL M env (xs.take n).flatten news ∧ (∀ w' : World, (Builtin.lenOf v).run Pr w' = .ok xs.length w') ∧ (∀ w' : World, w'.heap = w.heap → (Builtin.firstCells size n v).run Pr w' = .ok news.toArray w') := by
  unfold appended at ha
  split at ha
  · rename_i htk; exact absurd htk hstr
  · rename_i e htk
    have hlen := appLen_len ha hl
    rcases rows_read h hx ha hlen with ⟨rfl, rfl⟩ | ⟨rfl, ⟨a0, cap0, rfl⟩, _⟩ | ⟨b, o, cap, k, vs, rfl, h1, h2, h3⟩
    · exact ⟨[], by simpa using RdL.nil, fun w' => by simp [Builtin.lenOf], fun w' _ => by simp [Builtin.firstCells]⟩
    · have h0 : n = 0 := by simpa using hn
      subst h0
      refine ⟨[], by simpa using RdL.nil, fun w' => by simp [Builtin.lenOf], fun w' _ => ?_⟩
      have := run_loadCells_list (P := Pr) w' a0 [] (fun j v hj => by simp at hj)
      simp only [List.length_nil] at this
      simp [Builtin.firstCells, this]
    · refine ⟨vs.take (n * size), by rw [flatten_take hk]; exact h2.take _, fun w' => by simp [Builtin.lenOf], fun w' hw => ?_⟩
      have hvl : vs.length = xs.length * size := by rw [← h2.1]; exact flatten_len hk
      have := run_loadCells_list (P := Pr) w' ⟨b, o, none⟩ (vs.take (n * size)) (fun j v hv => by
        rw [List.getElem?_take] at hv
        split at hv
        · rw [addr_add]; exact (cell_same (by rw [hw])).trans (h3 j v hv)
        · cases hv)
      have hm : n * size ≤ vs.length := by rw [hvl]; exact Nat.mul_le_mul_right _ hn
      rw [List.length_take, Nat.min_eq_left hm] at this
      simp [Builtin.firstCells, this]
  · cases ha
theorem run_copy_some {t u ty e : TypeId} {i : TypeInfo} (ht : Pr.underlying t = some (.slice e)) (hi : Pr.info? e = some i) {x : Value} {n m sLen sCap : Nat} {news : List Value} {a : Addr}
    (hl : (Builtin.lenOf x).run Pr w = .ok m w) (hn : Nat.min m sLen = n) (hc : (Builtin.firstCells i.size n x).run Pr w = .ok news.toArray w) (hst : (storeCells a news).run Pr w = .ok () w') :
    (Builtin.copy_ #[t, u] ty #[.slice (some a) sLen sCap, x]).run Pr w = .ok (.int .i64 n) w' := by
  simp [Builtin.copy_, run_underlying ht, sizeOf, typeInfo, hi, hl, hn, hc, hst, goInt]
theorem run_copy_none {t u ty e : TypeId} {i : TypeInfo} (ht : Pr.underlying t = some (.slice e)) (hi : Pr.info? e = some i) {x : Value} {m sCap : Nat} {news : List Value}
    (hl : (Builtin.lenOf x).run Pr w = .ok m w) (hc : (Builtin.firstCells i.size 0 x).run Pr w = .ok news.toArray w) :
    (Builtin.copy_ #[t, u] ty #[.slice none 0 sCap, x]).run Pr w = .ok (.int .i64 (0 : Nat)) w := by
  have : Nat.min m 0 = 0 := Nat.min_zero m
  simp [Builtin.copy_, run_underlying ht, sizeOf, typeInfo, hi, hl, this, hc, goInt]

theorem copy_ok {t u ty e : TypeId} {ti ui ei : TI} (ht : tyOf Pr t = some ti) (hte : ti.tk = .slice e) (he : tyOf Pr e = some ei) (hu : tyOf Pr u = some ui) (h : StH g H M env w) {s x : D} {a b : Value} (hs : RdD M env s a) (hx : RdD M env x b)
    {xs : List (List D)} (ha : appended ui.tk x H = some xs) (hl : appLen x xs) (hstr : ui.tk ≠ .str) :
    OpOK Pr g M env w ((asVal (Builtin.copy_ #[t, u] ty #[a, b])).run Pr w) (opCopy ei s xs H) := by
  obtain ⟨ti', td, tz, hti, htu, htz, rfl⟩ := tyOf_spec ht
  simp only [] at hte
  obtain rfl := tk_slice hte
  obtain ⟨i, etd, z, hi, heu, hz, rfl⟩ := tyOf_spec he
  unfold opCopy
  simp only []
  split
  · rename_i id k st len cap
    split
    · rename_i rs hH
      rw [nth_eq] at hH
      cases hkk : (k == i.size) with
      | false => trivial
      | true =>
      have hk : k = i.size := by simpa using hkk
      subst hk
      simp only [cond_true]
      refine OpOK.pre ?_
      rintro ⟨q3, q4, q5⟩
      rw [setN_eq]
      have hset : H.set id (.rows rs) = H := by
        apply List.ext_getElem?
        intro j
        by_cases hj : id = j
        · subst hj; rw [List.getElem?_set_self (get_lt hH), hH]
        · rw [List.getElem?_set_ne hj]
      cases hs with
      | ownNil a1 a2 a3 a4 =>
        obtain ⟨news, n1, n2, n3⟩ := src_take hu h.sim hx ha hl q3 (n := 0) (Nat.zero_le _) hstr
        rw [show min xs.length 0 = 0 from Nat.min_zero _]
        rw [show List.take st rs ++ List.take 0 xs ++ List.drop (st + 0) rs = rs by simp, hset]
        exact OpOK.same h (run_copy_none htu hi (n2 w) (n3 w rfl)) (.p .int)
      | own a1 a2 a3 a4 a5 a6 a7 =>
        rename_i blk bb o c
        obtain ⟨news, n1, n2, n3⟩ := src_take hu h.sim hx ha hl q3 (n := min xs.length len) (Nat.min_le_left _ _) hstr
        have hxl : (xs.take (min xs.length len)).length = min xs.length len := by simp
        have hq : (st + (xs.take (min xs.length len)).length) * blk.k ≤ blk.n := by
          refine Nat.le_trans ?_ a6
          rw [a3, hxl]
          exact Nat.mul_le_mul_right _ (by omega)
        obtain ⟨w', hrun, hs1, hs2, hobj', hso⟩ := store_rows (Pr := Pr) h a1 hH a2 (q := st) (by omega) n1 (fun r hr => by rw [a3]; exact q3 r (List.mem_of_mem_take hr)) (fun r hr => q4 r (List.mem_of_mem_take hr)) hq
        have hrun' : (storeCells ⟨bb, o, none⟩ news).run Pr w = .ok () w' := by
          by_cases hc0 : c = 0
          · have hx0 : min xs.length len = 0 := by omega
            rw [hx0] at n1
            have hnn : news = [] := by simpa using n1.nil_inv
            subst hnn
            exact hrun
          · rw [a4 hc0, ← a3]; exact hrun
        rw [hxl] at hobj'
        exact OpOK.move (run_copy_some htu hi (n2 w) rfl (n3 w rfl) hrun') (Ext.refl _ _) (h.set a1 hH rfl a2 hs1 hs2 hobj') (.p .int)
    · trivial
  · trivial
end Go.Ab
/-
  Each operation does what the abstract machine says: all of them.
-/
namespace Go.Ab
variable {M : Mem} {env : List Blk} {H : Heap} {w w' : World} {Pr : Program} {g : G}

theorem withTI_some {o : Option TI} {f : TI → OV} {r : Result Next} (h : ∀ ti, o = some ti → OpOK Pr g M env w r (f ti)) : OpOK Pr g M env w r (withTI o f) := by
  cases o with
  | none => trivial
  | some ti => exact h ti rfl

theorem RdL.one {d : D} {vs : List Value} (h : RdL M env [d] vs) : ∃ v, vs = [v] ∧ RdD M env d v := by
  obtain ⟨v, vs', rfl, h1, h2⟩ := h.cons_inv
  rw [h2.nil_inv]; exact ⟨v, rfl, h1⟩
theorem RdL.two {d e : D} {vs : List Value} (h : RdL M env [d, e] vs) : ∃ v u, vs = [v, u] ∧ RdD M env d v ∧ RdD M env e u := by
  obtain ⟨v, vs', rfl, h1, h2⟩ := h.cons_inv
  obtain ⟨u, rfl, h3⟩ := h2.one
  exact ⟨v, u, rfl, h1, h3⟩
theorem RdL.three {d e f : D} {vs : List Value} (h : RdL M env [d, e, f] vs) : ∃ v u x, vs = [v, u, x] ∧ RdD M env d v ∧ RdD M env e u ∧ RdD M env f x := by
  obtain ⟨v, vs', rfl, h1, h2⟩ := h.cons_inv
  obtain ⟨u, x, rfl, h3, h4⟩ := h2.two
  exact ⟨v, u, x, rfl, h1, h3, h4⟩

theorem slice_elem {tk : TK} {ei : TI} (h : elemS Pr tk = some ei) : ∃ e, tk = .slice e ∧ tyOf Pr e = some ei := by
  cases tk <;> simp [elemS] at h
  exact ⟨_, rfl, h⟩
theorem key_elem {tk kk : TK} (h : keyTK Pr tk = some kk) : ∃ k e ki, tk = .map k e ∧ tyOf Pr k = some ki ∧ ki.tk = kk := by
  cases tk <;> simp [keyTK] at h
  obtain ⟨ki, h1, h2⟩ := h
  exact ⟨_, _, ki, rfl, h1, h2⟩

theorem callee_ok {ρ : Operand → Value} {c : Call} {ty : TypeId} {f : Operand} (hc : c.callee = .value f) {ds : List D} (hr : RdL M env ds (ρ f :: c.args.toList.map ρ)) :
    OpOK Pr g M env w ((do let d ← resolve ρ c ty; invoke d.target d.args : Sem Next).run Pr w) (opCallee ds) := by
  unfold opCallee
  split
  · rename_i fid first cap args
    obtain ⟨v, vs, e, h1, h2⟩ := hr.cons_inv
    simp at e
    obtain ⟨rfl, rfl⟩ := e
    generalize hv : ρ f = v at h1
    cases h1 with
    | fn hlf hlc hf hcc =>
      rename_i vf vc
      have h3 : RdL M env first vf.toList := ⟨by simpa using hlf, fun i c x q1 q2 => hf i c x q1 (by simpa using q2)⟩
      have h4 : RdL M env cap vc.toList := ⟨by simpa using hlc, fun i c x q1 q2 => hcc i c x q1 (by simpa using q2)⟩
      refine ⟨vf.toList ++ c.args.toList.map ρ ++ vc.toList, ?_, (h3.append h2).append h4⟩
      simp only [resolve, hc, hv, Deferred.ofValue, pure_bind, invoke]
      congr 2
      apply Array.ext'
      simp
  · trivial

theorem builtin_ok {b : Builtin} {ts : Array TypeId} {ty : TypeId} {cs : Array Bool} (h : StH g H M env w) {ds : List D} {vs : List Value} (hr : RdL M env ds vs) :
    OpOK Pr g M env w ((builtin b ts ty cs vs.toArray).run Pr w) (opBuiltin Pr b ts.toList ds H) := by
  cases b <;> simp only [opBuiltin] <;> try trivial
  case append =>
    split
    · rename_i t u s x hts
      have hts' : ts = #[t, u] := Array.ext' (by rw [hts])
      subst hts'
      obtain ⟨a, b, rfl, h1, h2⟩ := hr.two
      refine withTI_some fun ti hti => withTI_some fun ei hei => withTI_some fun ui hui => ?_
      split
      · rename_i xs hxs
        refine OpOK.pre fun hl => ?_
        obtain ⟨e, hte, he⟩ := slice_elem hei
        exact append_ok hti hte he hui h h1 h2 hxs hl
      · trivial
    · trivial
  case copy =>
    split
    · rename_i t u s x hts
      have hts' : ts = #[t, u] := Array.ext' (by rw [hts])
      subst hts'
      obtain ⟨a, b, rfl, h1, h2⟩ := hr.two
      refine withTI_some fun ti hti => withTI_some fun ei hei => withTI_some fun ui hui => ?_
      split
      · rename_i xs hxs
        refine OpOK.pre fun hl => ?_
        obtain ⟨e, hte, he⟩ := slice_elem hei
        cases hns : notStr ui.tk with
        | false => trivial
        | true => exact copy_ok hti hte he hui h h1 h2 hxs hl (fun e => by rw [e] at hns; cases hns)
      · trivial
    · trivial
  case cap =>
    split
    · rename_i t d hts
      have hts' : ts = #[t] := Array.ext' (by rw [hts])
      subst hts'
      obtain ⟨a, rfl, h1⟩ := hr.one
      exact withTI_some fun ti hti => cap_ok hti h h1
    · trivial
  case delete =>
    split
    · rename_i t tl m k hts
      obtain ⟨a, b, rfl, h1, h2⟩ := hr.two
      refine withTI_some fun ti hti => ?_
      split
      · rename_i kk hkk
        obtain ⟨kt, et, ki, q1, q2, rfl⟩ := key_elem hkk
        have hts0 : ts[0]? = some t := by rw [← Array.getElem?_toList, hts]; rfl
        exact delete_ok hts0 hti q1 q2 h h1 h2
      · trivial
    · trivial
  case len =>
    split
    · rename_i t d hts
      have hts' : ts = #[t] := Array.ext' (by rw [hts])
      subst hts'
      obtain ⟨a, rfl, h1⟩ := hr.one
      exact withTI_some fun ti hti => len_ok hti h h1
    · trivial
  case max => exact max_ok h hr
  case min => exact min_ok h hr

theorem map_toList (ρ : Operand → Value) (a : Array Operand) : (a.map ρ).toList = a.toList.map ρ := by simp

set_option maxHeartbeats 1000000 in
theorem opv_ok {o : Oper} {ρ : Operand → Value} (h : StH g H M env w) {ds : List D} (hr : RdL M env ds (o.op.operands.toList.map ρ)) :
    OpOK Pr g M env w ((execOp ρ o).run Pr w) (opv Pr o.op ds H) := by
  obtain ⟨dst, op, ty, pos, aft, gd⟩ := o
  cases op with
  | move x =>
    simp only [opv]
    split
    · obtain ⟨v, e, h1⟩ := hr.one
      simp [Op.operands] at e; subst e
      exact ⟨_, w, M, env, .inl (by simp [execOp]), Ext.refl _ _, h, h1⟩
    · trivial
  | assign x =>
    simp only [opv]
    split
    · obtain ⟨v, e, h1⟩ := hr.one
      simp [Op.operands] at e; subst e
      exact ⟨_, w, M, env, .inl (by simp [execOp]), Ext.refl _ _, h, h1⟩
    · trivial
  | pick c a b =>
    simp only [opv]
    split
    · obtain ⟨vc, va, vb, e, h1, h2, h3⟩ := hr.three
      simp [Op.operands] at e
      obtain ⟨rfl, rfl, rfl⟩ := e
      exact pick_ok h h1 h2 h3
    · trivial
  | alloc t => exact withTI_some fun ti hti => alloc_ok hti h
  | box t x =>
    simp only [opv]
    split
    · obtain ⟨v, e, h1⟩ := hr.one
      simp [Op.operands] at e; subst e
      exact box_ok (Pr := Pr) (t := t) h h1
    · trivial
  | build t parts =>
    refine withTI_some fun ti hti => ?_
    have hr' : RdL M env ds (parts.toList.map fun p => ρ p.2) := by simpa [Op.operands, Function.comp_def] using hr
    have := build_ok (Pr := Pr) hti h (is := parts.toList.map (·.1)) hr' (by simp)
    have e : (parts.map fun (i, x) => (i, ρ x)) = ((parts.toList.map (·.1)).zip (parts.toList.map fun p => ρ p.2)).toArray := by
      apply Array.ext'
      simp [List.zip_map']
    show OpOK Pr g M env w ((asVal (Instr.build t (parts.map fun (i, x) => (i, ρ x)))).run Pr w) _
    rw [e]; exact this
  | buildSlice t len parts =>
    refine withTI_some fun ti hti => withTI_some fun ei hei => ?_
    obtain ⟨e, hte, he⟩ := slice_elem hei
    have hr' : RdL M env ds (parts.toList.map fun p => ρ p.2) := by simpa [Op.operands, Function.comp_def] using hr
    have := buildSlice_ok (Pr := Pr) hti hte he h (len := len) (is := parts.toList.map (·.1)) hr' (by simp)
    have e : (parts.map fun (i, x) => (i, ρ x)) = ((parts.toList.map (·.1)).zip (parts.toList.map fun p => ρ p.2)).toArray := by
      apply Array.ext'
      simp [List.zip_map']
    show OpOK Pr g M env w ((asVal (Instr.buildSlice t len (parts.map fun (i, x) => (i, ρ x)))).run Pr w) _
    rw [e]; exact this
  | load t x =>
    simp only [opv]
    split
    · obtain ⟨v, e, h1⟩ := hr.one
      simp [Op.operands] at e; subst e
      exact withTI_some fun ti hti => load_ok hti h h1
    · trivial
  | store t x y =>
    simp only [opv]
    split
    · obtain ⟨v, u, e, h1, h2⟩ := hr.two
      simp [Op.operands] at e
      obtain ⟨rfl, rfl⟩ := e
      exact withTI_some fun ti hti => store_ok hti h h1 h2
    · trivial
  | nilCheck x =>
    simp only [opv]
    split
    · obtain ⟨v, e, h1⟩ := hr.one
      simp [Op.operands] at e; subst e
      exact nilCheck_ok h h1
    · trivial
  | binOp b t x y yt =>
    simp only [opv]
    split
    · obtain ⟨v, u, e, h1, h2⟩ := hr.two
      simp [Op.operands] at e
      obtain ⟨rfl, rfl⟩ := e
      exact withTI_some fun ti hti => binA_ok hti h h1 h2
    · trivial
  | unOp u t x =>
    simp only [opv]
    split
    · obtain ⟨v, e, h1⟩ := hr.one
      simp [Op.operands] at e; subst e
      exact un_ok h h1
    · trivial
  | convert s d x =>
    simp only [opv]
    split
    · obtain ⟨v, e, h1⟩ := hr.one
      simp [Op.operands] at e; subst e
      exact withTI_some fun si hsi => withTI_some fun di hdi => convert_ok hsi hdi h h1
    · trivial
  | makeFunc f first captured =>
    simp only [opv]
    split
    · rename_i a ha
      have hr' : RdL M env ds (first.toList.map ρ ++ captured.toList.map ρ) := by simpa [Op.operands] using hr
      have := makeFunc_ok (Pr := Pr) h (f := f) hr' (by simp) ha
      show OpOK Pr g M env w ((asVal (Instr.makeFunc f (first.map ρ) (captured.map ρ))).run Pr w) _
      have e1 : first.map ρ = (first.toList.map ρ).toArray := Array.ext' (by simp)
      have e2 : captured.map ρ = (captured.toList.map ρ).toArray := Array.ext' (by simp)
      rw [e1, e2]; exact this
    · trivial
  | makeMap t r =>
    cases r with
    | none => exact makeMap_ok h
    | some x => trivial
  | makeSlice t l c =>
    simp only [opv]
    split
    · obtain ⟨v, u, e, h1, h2⟩ := hr.two
      simp [Op.operands] at e
      obtain ⟨rfl, rfl⟩ := e
      refine withTI_some fun ti hti => withTI_some fun ei hei => ?_
      obtain ⟨e, hte, he⟩ := slice_elem hei
      exact makeSlice_ok hti hte he h h1 h2
    · trivial
  | slice t x lo hi mx =>
    simp only [opv]
    split
    · rename_i d ds'
      obtain ⟨v, vs, e, h1, h2⟩ := hr.cons_inv
      simp [Op.operands] at e
      obtain ⟨rfl, rfl⟩ := e
      have hr' : RdL M env ds' (lo.toList.map ρ ++ (hi.toList.map ρ ++ (mx.toList.map ρ ++ []))) := by simpa [List.map_append] using h2
      obtain ⟨a1, a2⟩ := optD_spec hr'
      obtain ⟨b1, b2⟩ := optD_spec a2
      obtain ⟨c1, _⟩ := optD_spec b2
      refine withTI_some fun ti hti => ?_
      unfold opSliceTI
      split
      · rename_i e htk
        refine withTI_some fun ei hei => ?_
        rw [← htk]
        exact slice_ok hti h h1 a1 b1 c1 (fun e' he' => by rw [htk] at he'; simp at he'; subst he'; exact ⟨ei, hei, rfl⟩)
      · rename_i htk
        rw [← htk]
        exact slice_ok hti h h1 a1 b1 c1 (fun e' he' => by rw [htk] at he'; cases he')
      · trivial
    · trivial
  | fieldAddr t x f =>
    simp only [opv]
    split
    · obtain ⟨v, e, h1⟩ := hr.one
      simp [Op.operands] at e; subst e
      refine withTI_some fun ti hti => ?_
      split
      · rename_i p hp
        exact fieldAddr_ok hti hp h h1
      · trivial
    · trivial
  | field t x f =>
    simp only [opv]
    split
    · obtain ⟨v, e, h1⟩ := hr.one
      simp [Op.operands] at e; subst e
      refine withTI_some fun ti hti => ?_
      split
      · rename_i p hp
        exact field_ok hti hp h h1
      · trivial
    · trivial
  | indexAddr t x i =>
    simp only [opv]
    split
    · obtain ⟨v, u, e, h1, h2⟩ := hr.two
      simp [Op.operands] at e
      obtain ⟨rfl, rfl⟩ := e
      exact withTI_some fun ti hti => withTI_some fun ei hei => indexAddr_ok hti hei h h1 h2
    · trivial
  | index t x i =>
    simp only [opv]
    split
    · obtain ⟨v, u, e, h1, h2⟩ := hr.two
      simp [Op.operands] at e
      obtain ⟨rfl, rfl⟩ := e
      exact withTI_some fun ti hti => index_ok hti rfl h h1 h2
    · trivial
  | lookup t x i ok =>
    simp only [opv]
    split
    · obtain ⟨v, u, e, h1, h2⟩ := hr.two
      simp [Op.operands] at e
      obtain ⟨rfl, rfl⟩ := e
      refine withTI_some fun ti hti => ?_
      split
      · rename_i kt et htk
        exact withTI_some fun ki hki => withTI_some fun ei hei => lookup_ok hti htk hki hei h h1 h2 ok
      · trivial
    · trivial
  | mapUpdate t m k x =>
    simp only [opv]
    split
    · obtain ⟨v, u, y, e, h1, h2, h3⟩ := hr.three
      simp [Op.operands] at e
      obtain ⟨rfl, rfl, rfl⟩ := e
      refine withTI_some fun ti hti => ?_
      split
      · rename_i kk hkk
        obtain ⟨kt, et, ki, q1, q2, rfl⟩ := key_elem hkk
        exact mapUpdate_ok hti q1 q2 h h1 h2 h3
      · trivial
    · trivial
  | extract t i =>
    simp only [opv]
    split
    · obtain ⟨v, e, h1⟩ := hr.one
      simp [Op.operands] at e; subst e
      exact extract_ok h h1 i
    · trivial
  | makeInterface t x =>
    simp only [opv]
    split
    · obtain ⟨v, e, h1⟩ := hr.one
      simp [Op.operands] at e; subst e
      refine withTI_some fun ti hti => ?_
      split
      · trivial
      · rename_i hn
        exact makeIface_ok hti hn h h1
    · trivial
  | call c =>
    simp only [opv]
    split
    · rename_i b hc
      have hr' : RdL M env ds (c.args.toList.map ρ) := by simpa [Op.operands, Call.operands, hc] using hr
      obtain ⟨cs, e⟩ : ∃ cs, (execOp ρ { dst := dst, op := .call c, type := ty, pos := pos, after := aft, guard := gd }).run Pr w = (builtin b c.argTypes ty cs (c.args.toList.map ρ).toArray).run Pr w := by
        have e1 : c.args.map ρ = (c.args.toList.map ρ).toArray := Array.ext' (by simp)
        exact ⟨_, by simp only [execOp, resolve, hc, pure_bind, invoke, e1]; rfl⟩
      rw [e]; exact builtin_ok h hr'
    · rename_i f hc
      have hr' : RdL M env ds (ρ f :: c.args.toList.map ρ) := by simpa [Op.operands, Call.operands, hc] using hr
      exact callee_ok hc hr'
    · trivial
  | _ => trivial
end Go.Ab
/-
  The abstract machine's steps through a body.
-/
namespace Go.Ab
variable {Pr : Program}

inductive CI where
  | code (c : Code)
  | ops (al l : List Oper)
  | blk (id : Nat)
  | lp (c : Code)

inductive Out where
  | go (k : List CI) (T : Tm) (H : Heap)
  | call (f : FuncId) (ds : List D) (dst : Option Tmp) (k : List CI) (T : Tm) (H : Heap)
  | ret (d : D) (H : Heap)
  | pre (p : Prop) (o : Out)
  | loop (c : Code) (k : List CI) (T : Tm) (H : Heap)
  | draw (al : List Oper) (k : List CI) (T : Tm) (H : Heap)
  | bad

def opnds : Op → List Operand
  | .alloc _ => []
  | .ready _ => []
  | .waits _ => []
  | .move x => [x]
  | .assign x => [x]
  | .box _ x => [x]
  | .load _ x => [x]
  | .nilCheck x => [x]
  | .unOp _ _ x => [x]
  | .convert _ _ x => [x]
  | .sliceToArrayPointer _ x => [x]
  | .makeInterface _ x => [x]
  | .makeChan _ x => [x]
  | .fieldAddr _ x _ => [x]
  | .field _ x _ => [x]
  | .range _ x => [x]
  | .next x _ => [x]
  | .entry x => [x]
  | .typeAssert x _ _ _ => [x]
  | .extract x _ => [x]
  | .panic x => [x]
  | .recv _ x _ => [x]
  | .pick c a b => [c, a, b]
  | .build _ ps => ps.toList.map (·.2)
  | .buildSlice _ _ ps => ps.toList.map (·.2)
  | .store _ a v => [a, v]
  | .binOp _ _ a v _ => [a, v]
  | .makeSlice _ a v => [a, v]
  | .indexAddr _ a v => [a, v]
  | .index _ a v => [a, v]
  | .lookup _ a v _ => [a, v]
  | .mapEntry _ a v => [a, v]
  | .send a v => [a, v]
  | .makeFunc _ first captured => first.toList ++ captured.toList
  | .makeMap _ r => r.toList
  | .slice _ x l h m => x :: (l.toList ++ (h.toList ++ m.toList))
  | .mapUpdate _ m k v => [m, k, v]
  | .entryStore _ m k v => [m, k, v]
  | .insert _ m k v => [m, k, v]
  | .call c => (match c.callee with | .value f => [f] | .invoke r _ => [r] | .builtin _ => []) ++ c.args.toList
  | .go c => c.operands.toList
  | .defer c => c.operands.toList
  | .select cs b => (Op.select cs b).operands.toList

theorem opnds_eq (op : Op) : opnds op = op.operands.toList := by
  cases op <;> simp [opnds, Op.operands]
  case call c => unfold Call.operands; cases c.callee <;> simp

/-- Is the operation to be done? -/
def guardB (b want : Bool) : Option Bool := some (b == want)
def guardD (d : Option D) (want : Bool) : Option Bool :=
  match d with
  | some (.p (.bool b)) => guardB b want
  | some (.tup _) => some false
  | _ => none
/-- What stands where nothing was done. -/
def skipD : D := .tup []
def guardO (al : List Oper) (T : Tm) (g : Option (Nat × Bool)) : Option Bool :=
  match g with
  | none => some true
  | some (j, want) => match nth al j with
    | some o => match o.dst with
      | some t => guardD (get T t) want
      | none => none
    | none => none

def putT (nt : Nat) (dst : Option Tmp) (d : D) (T : Tm) : Option Tm :=
  match dst with
  | some t => bif Nat.blt t nt then some ((t, d) :: T) else none
  | none => some T
def goO (k : List CI) (T : Option Tm) (H : Heap) : Out :=
  match T with
  | some T => .go k T H
  | none => .bad

/-- Contracts of functions that only compute. -/
abbrev Tab := List (FuncId × (List D → Option (Prop × D)))
def findTab (tab : Tab) (f : FuncId) : Option (List D → Option (Prop × D)) :=
  match tab with
  | [] => none
  | (k, F) :: r => bif k == f then some F else findTab r f

def outCall (nt : Nat) (r : Option (Prop × D)) (f : FuncId) (ds : List D) (dst : Option Tmp) (k : List CI) (T : Tm) (H : Heap) : Out :=
  match r with
  | some (p, d) => .pre p (goO k (putT nt dst d T) H)
  | none => .call f ds dst k T H
def outTab (nt : Nat) (F : Option (List D → Option (Prop × D))) (f : FuncId) (ds : List D) (dst : Option Tmp) (k : List CI) (T : Tm) (H : Heap) : Out :=
  match F with
  | some F => outCall nt (F ds) f ds dst k T H
  | none => .call f ds dst k T H
def ovOut (tab : Tab) (nt : Nat) (o : OV) (dst : Option Tmp) (k : List CI) (T : Tm) (H : Heap) : Out :=
  match o with
  | .val d H' => goO k (putT nt dst d T) H'
  | .call f ds => outTab nt (findTab tab f) f ds dst k T H
  | .pre p o => .pre p (ovOut tab nt o dst k T H)
  | .bad => .bad

def opGo (Pr : Program) (tab : Tab) (nt : Nat) (o : Oper) (ds : Option (List D)) (k : List CI) (T : Tm) (H : Heap) : Out :=
  match ds with
  | some ds => ovOut tab nt (opv Pr o.op ds H) o.dst k T H
  | none => .bad
def opStep (Pr : Program) (tab : Tab) (nt : Nat) (gd : Option Bool) (o : Oper) (k : List CI) (T : Tm) (H : Heap) : Out :=
  match gd with
  | none => .bad
  | some false => goO k (putT nt o.dst undefD T) H
  | some true => opGo Pr tab nt o (evs T (opnds o.op)) k T H

def exitC (id : Nat) : List CI → Option (List CI)
  | [] => none
  | .blk id' :: k => bif id' == id then some k else exitC id k
  | _ :: k => exitC id k

/-- What a function hands back. -/
def resD (o : OV) : Option D :=
  match o with
  | .val d _ => some d
  | _ => none
def resOne (Pr : Program) (T : Tm) (H : Heap) : ResultVar → Option D
  | .tmp t => get T t
  | .cell a t => match get T a with
    | none => none
    | some d => match tyOf Pr t with
      | none => none
      | some ti => resD (opLoad ti d H)
def resAll (Pr : Program) (T : Tm) (H : Heap) : List ResultVar → Option (List D)
  | [] => some []
  | r :: rs => match resOne Pr T H r with
    | none => none
    | some d => match resAll Pr T H rs with
      | none => none
      | some ds => some (d :: ds)
def mkRes : List D → D
  | [d] => d
  | ds => .tup ds
def retO (ds : Option (List D)) (H : Heap) : Out :=
  match ds with
  | some ds => .ret (mkRes ds) H
  | none => .bad

def condO (a b : Code) (k : List CI) (T : Tm) (H : Heap) (d : Option D) : Out :=
  match d with
  | some (.p (.bool t)) => .go (.code (bif t then a else b) :: k) T H
  | _ => .bad
def exitO (T : Tm) (H : Heap) (k : Option (List CI)) : Out :=
  match k with
  | some k => .go k T H
  | none => .bad

def step (Pr : Program) (tab : Tab) (rs : List ResultVar) (nt : Nat) (k : List CI) (T : Tm) (H : Heap) : Out :=
  match k with
  | [] => retO (resAll Pr T H rs) H
  | .blk _ :: k => .go k T H
  | .lp c :: k => .loop c k T H
  | .ops _ [] :: k => .go k T H
  | .ops al (o :: l) :: k => opStep Pr tab nt (guardO al T o.guard) o (.ops al l :: k) T H
  | .code c :: k => match c with
    | .skip => .go k T H
    | .seq a b => .go (.code a :: .code b :: k) T H
    | .cond c a b => condO a b k T H (ev T c)
    | .block id c => .go (.code c :: .blk id :: k) T H
    | .loop c => .loop c k T H
    | .exit id => exitO T H (exitC id k)
    | .ret => retO (resAll Pr T H rs) H
    | .region _ ops false => .go (.ops ops.toList ops.toList :: k) T H
    | .region _ ops true => .draw ops.toList k T H
    | _ => .bad

def contO (f : List CI → Tm → Heap → Out) (o : Out) : Out :=
  match o with
  | .go k T H => f k T H
  | .pre p o => .pre p (contO f o)
  | o => o
def exec (Pr : Program) (tab : Tab) (rs : List ResultVar) (nt : Nat) : Nat → List CI → Tm → Heap → Out
  | 0, k, T, H => .go k T H
  | n + 1, k, T, H => contO (exec Pr tab rs nt n) (step Pr tab rs nt k T H)
end Go.Ab
/-
  The abstract machine's steps are the machine's.
-/
namespace Go.Ab
variable {M : Mem} {env : List Blk} {H : Heap} {w w' : World} {Pr : Program} {g : G}

inductive ConcI : CI → Item → Prop
  | code (c : Code) : ConcI (.code c) (.code c)
  | ops {al l : List Oper} {all : Array Oper} {n : Nat} {is : List Nat} (h : all.toList = al) (hl : l = al.drop n) (hi : is = List.range' n (all.size - n)) : ConcI (.ops al l) (.inRegion all is)
  | blk (id : Nat) : ConcI (.blk id) (.inBlock id)
  | lp (c : Code) : ConcI (.lp c) (.inLoop c)
inductive ConcL : List CI → List Item → Prop
  | nil : ConcL [] []
  | cons {x y k l} (h : ConcI x y) (hs : ConcL k l) : ConcL (x :: k) (y :: l)

/-- What the caller is told. -/
def Post (g : G) (R : D → Heap → Prop) (v : Value) (w' : World) : Prop := ∃ r H' M' env', R r H' ∧ StH g H' M' env' w' ∧ RdD M' env' r v

def Ends (Pr : Program) (f : FuncId) (g : G) (R : D → Heap → Prop) (m : Machine) (cs : List Frame) : Prop :=
  ∃ v w' fr, Post g R v w' ∧ Steps Pr m (lone fr cs w') ∧ fr.fn = f ∧ fr.leaving Pr w' (.returned v)

theorem Ends.step {f : FuncId} {R : D → Heap → Prop} {m m' : Machine} {cs : List Frame} (hs : Go.step Pr m = .next m') (h : Ends Pr f g R m' cs) : Ends Pr f g R m cs :=
  let ⟨v, w', fr, a, b, c, d⟩ := h; ⟨v, w', fr, a, .head hs b, c, d⟩
theorem Ends.steps {f : FuncId} {R : D → Heap → Prop} {m m' : Machine} {cs : List Frame} (hs : Steps Pr m m') (h : Ends Pr f g R m' cs) : Ends Pr f g R m cs :=
  let ⟨v, w', fr, a, b, c, d⟩ := h; ⟨v, w', fr, a, hs.trans b, c, d⟩

/-- Function f with m objects handed in, nt temporaries: from here on it returns as R says. -/
def Run (Pr : Program) (f : FuncId) (nt m : Nat) (k : List CI) (T : Tm) (H : Heap) (R : D → Heap → Prop) : Prop :=
  ∀ (g : G) (M : Mem) (env : List Blk) (a : Act) (w : World) (b : Frame) (its : List Item) (cs : List Frame), g.env0.length = m → b.fn = f → b.kind = .normal → ConcL k its → StI nt g T H M env a w →
    Ends Pr f g R (lone (b.at a its) cs w) cs

/-- A function that can be entered. -/
def Enters (Pr : Program) (f : FuncId) : Prop := ∀ (args : Array Value) (w : World), (callFunc f args).run Pr w = .ok (.enter f args) w

def RunCall (Pr : Program) (f : FuncId) (nt m : Nat) (c : FuncId) (ds : List D) (dst : Option Tmp) (k : List CI) (T : Tm) (H : Heap) (R : D → Heap → Prop) : Prop :=
  Enters Pr c ∧ ∀ (g : G) (M : Mem) (env : List Blk) (a : Act) (w : World) (vs : List Value) (fr : Frame) (b : Frame) (its : List Item) (cs : List Frame), g.env0.length = m → b.fn = f → b.kind = .normal → ConcL k its →
    StI nt g T H M env a w → RdL M env ds vs → (∀ v, fr.finish v = b.at (a.put dst v) its) → Ends Pr f g R (lone (Frame.enter Pr c vs.toArray .normal) (fr :: cs) w) cs

def RunDraw (Pr : Program) (f : FuncId) (nt m : Nat) (al : List Oper) (k : List CI) (T : Tm) (H : Heap) (R : D → Heap → Prop) : Prop :=
  ∀ (id : Nat) (ops : Array Oper), ops.toList = al → Run Pr f nt m (.code (.region id ops true) :: k) T H R

def RunO (Pr : Program) (f : FuncId) (nt m : Nat) (R : D → Heap → Prop) : Out → Prop
  | .go k T H => Run Pr f nt m k T H R
  | .call c ds dst k T H => RunCall Pr f nt m c ds dst k T H R
  | .ret d H => R d H
  | .pre p o => p ∧ RunO Pr f nt m R o
  | .loop c k T H => Run Pr f nt m (.code c :: .lp c :: k) T H R
  | .draw al k T H => RunDraw Pr f nt m al k T H R
  | .bad => False

theorem evs_rd {nt : Nat} {T : Tm} {a : Act} (h : StI nt g T H M env a w) : ∀ {xs : List Operand} {ds : List D}, evs T xs = some ds → RdL M env ds (xs.map a.eval)
  | [], ds, he => by simp [evs] at he; subst he; exact .nil
  | x :: xs, ds, he => by
    simp only [evs] at he
    cases hx : ev T x with
    | none => rw [hx] at he; cases he
    | some d =>
      cases hs : evs T xs with
      | none => rw [hx, hs] at he; cases he
      | some ds' =>
        rw [hx, hs] at he
        simp at he; subst he
        refine .cons ?_ (evs_rd h hs)
        cases x with
        | tmp t =>
          simp only [ev] at hx
          obtain ⟨v, hv, hr⟩ := h.tmps t d hx
          simpa [Act.eval, Array.getD_eq_getD_getElem?, hv] using hr
        | const v => simp [ev] at hx; subst hx; exact .p (RdP_constP v)
        | global x => simp [ev] at hx
        | func f => simp [ev] at hx; subst hx; exact .fn rfl rfl (fun i c x h1 => by simp at h1) (fun i c x h1 => by simp at h1)
theorem ev_rd {nt : Nat} {T : Tm} {a : Act} (h : StI nt g T H M env a w) {x : Operand} {d : D} (he : ev T x = some d) : RdD M env d (a.eval x) := by
  have := evs_rd h (xs := [x]) (ds := [d]) (by simp [evs, he])
  obtain ⟨v, e, h1⟩ := this.one
  simp at e; subst e; exact h1

theorem RdD_skip : RdD M env skipD undef := .tup rfl (fun i c x h _ => by simp at h)
theorem guardO_ok {nt : Nat} {T : Tm} {a : Act} (h : StI nt g T H M env a w) {al : List Oper} {all : Array Oper} (ha : all.toList = al) {o : Oper} {r : Bool} (hg : guardO al T o.guard = some r) :
    Region.wanted o (yielded all a.tmps) = r := by
  unfold guardO at hg
  unfold Region.wanted
  split at hg
  · simp at hg; subst hg; simp [*]
  · rename_i j want hgu
    rw [hgu]
    simp only []
    split at hg
    · rename_i o' ho'
      rw [nth_eq] at ho'
      split at hg
      · rename_i t ht
        unfold guardD at hg
        split at hg
        · rename_i b hget
          obtain ⟨v, hv, hr⟩ := h.tmps t _ hget
          rw [bool_inv hr] at hv
          simp [guardB] at hg
          have h1 : all[j]? = some o' := by rw [← ha] at ho'; simpa using ho'
          simp [yielded, h1, ht, hv, ← hg]
        · rename_i cs hget
          obtain ⟨v, hv, hr⟩ := h.tmps t _ hget
          cases hr with
          | tup _ _ =>
            simp at hg
            have h1 : all[j]? = some o' := by rw [← ha] at ho'; simpa using ho'
            simp [yielded, h1, ht, hv, ← hg]
        · cases hg
      · cases hg
    · cases hg

theorem exitC_ok {id : Nat} : ∀ {k k' : List CI} {its : List Item}, exitC id k = some k' → ConcL k its → ∃ its', exitTo id its = some its' ∧ ConcL k' its'
  | [], k', its, h, _ => by simp [exitC] at h
  | x :: k, k', its, h, hc => by
    cases hc with
    | cons hx hs =>
      rename_i y l
      cases hx with
      | blk id' =>
        simp only [exitC] at h
        cases hid : (id' == id) with
        | true =>
          rw [hid] at h; simp at h; subst h
          have hid' : id' = id := by simpa using hid
          exact ⟨l, by simp [exitTo, hid'], hs⟩
        | false =>
          rw [hid] at h
          have hid' : id' ≠ id := by simpa using hid
          obtain ⟨its', h1, h2⟩ := exitC_ok h hs
          exact ⟨its', by simp [exitTo, hid', h1], h2⟩
      | code c => obtain ⟨its', h1, h2⟩ := exitC_ok (show exitC id k = some k' from h) hs; exact ⟨its', by simpa [exitTo] using h1, h2⟩
      | ops a1 a2 a3 => obtain ⟨its', h1, h2⟩ := exitC_ok (show exitC id k = some k' from h) hs; exact ⟨its', by simpa [exitTo] using h1, h2⟩
      | lp c => obtain ⟨its', h1, h2⟩ := exitC_ok (show exitC id k = some k' from h) hs; exact ⟨its', by simpa [exitTo] using h1, h2⟩

theorem StI.putT {nt : Nat} {T T' : Tm} {a : Act} (h : StI nt g T H M env a w) {dst : Option Tmp} {d : D} {v : Value} (hp : putT nt dst d T = some T') (hr : RdD M env d v) : StI nt g T' H M env (a.put dst v) w := by
  cases dst with
  | none => simp [Go.Ab.putT] at hp; subst hp; exact h.putNone v
  | some t =>
    simp only [Go.Ab.putT] at hp
    cases hlt : Nat.blt t nt with
    | false => rw [hlt] at hp; cases hp
    | true =>
      rw [hlt] at hp; simp at hp; subst hp
      exact h.put (by simpa using hlt) hr

/-! ### The steps -/
section
variable {f : FuncId} {nt m : Nat} {R : D → Heap → Prop}

theorem Run.of_step {k k' : List CI} {T : Tm}
    (h : ∀ (a : Act) (w : World) (b : Frame) (its : List Item) (cs : List Frame), ConcL k its → ∃ its', ConcL k' its' ∧ Go.step Pr (lone (b.at a its) cs w) = .next (lone (b.at a its') cs w)) (hr : Run Pr f nt m k' T H R) : Run Pr f nt m k T H R := by
  intro g M env a w b its cs hm hf hk hc hst
  obtain ⟨its', h1, h2⟩ := h a w b its cs hc
  exact .step h2 (hr g M env a w b its' cs hm hf hk h1 hst)

theorem ConcL.cons_inv {x : CI} {k : List CI} {its : List Item} (h : ConcL (x :: k) its) : ∃ y l, its = y :: l ∧ ConcI x y ∧ ConcL k l := by
  cases h with | cons h hs => exact ⟨_, _, rfl, h, hs⟩
theorem ConcI.code_inv {c : Code} {y : Item} (h : ConcI (.code c) y) : y = .code c := by cases h; rfl
theorem ConcI.blk_inv {i : Nat} {y : Item} (h : ConcI (.blk i) y) : y = .inBlock i := by cases h; rfl
theorem ConcI.lp_inv {c : Code} {y : Item} (h : ConcI (.lp c) y) : y = .inLoop c := by cases h; rfl

def resFn (tmps : Array Value) (r : ResultVar) : Sem Value :=
  match r with
  | .tmp t => pure (tmps.getD t undef)
  | .cell x t => do loadVar t (← asAddr (tmps.getD x undef))
theorem results_eq (fn : Func) (tmps : Array Value) : results fn tmps = (do
    let vs ← fn.results.mapM (resFn tmps)
    pure (if h : vs.size = 1 then vs[0] else .tuple vs)) := rfl
theorem resOne_ok {T : Tm} {a : Act} (h : StI nt g T H M env a w) {r : ResultVar} {d : D} (hr : resOne Pr T H r = some d) :
    ∃ v, (resFn a.tmps r).run Pr w = .ok v w ∧ RdD M env d v := by
  cases r with
  | tmp t =>
    obtain ⟨v, hv, hr'⟩ := h.tmps t d hr
    exact ⟨v, by simp [resFn, Array.getD_eq_getD_getElem?, hv], hr'⟩
  | cell x t =>
    simp only [resOne] at hr
    cases hx : get T x with
    | none => rw [hx] at hr; cases hr
    | some dx =>
      cases ht : tyOf Pr t with
      | none => rw [hx, ht] at hr; cases hr
      | some ti =>
        rw [hx, ht] at hr
        simp only [] at hr
        obtain ⟨v, hv, hrv⟩ := h.tmps x dx hx
        have hl := load_same ht h.h hrv
        cases hov : opLoad ti dx H with
        | val d' H' =>
          rw [hov] at hr hl
          simp [resD] at hr; subst hr
          obtain ⟨_, u, h1, h2⟩ := hl
          refine ⟨u, ?_, h2⟩
          have hg : a.tmps.getD x undef = v := by simp [Array.getD_eq_getD_getElem?, hv]
          simp only [resFn, hg]
          unfold opLoad at hov
          cases hrv with
          | ptr q1 q2 => simpa [asAddr, Instr.loadAt, Instr.sureAddr] using h1
          | p hp =>
            cases hp with
            | vptr q1 q2 => simpa [asAddr, Instr.loadAt, Instr.sureAddr] using h1
            | _ => cases hov
          | _ => cases hov
        | call _ _ => rw [hov] at hr; cases hr
        | pre _ _ => rw [hov] at hr; cases hr
        | bad => rw [hov] at hr; cases hr

theorem resAll_ok {T : Tm} {a : Act} (h : StI nt g T H M env a w) : ∀ {rs : List ResultVar} {ds : List D}, resAll Pr T H rs = some ds →
    ∃ vs : List Value, (rs.mapM (resFn a.tmps)).run Pr w = .ok vs w ∧ RdL M env ds vs
  | [], ds, hr => by simp [resAll] at hr; subst hr; exact ⟨[], rfl, .nil⟩
  | r :: rs, ds, hr => by
    simp only [resAll] at hr
    cases h1 : resOne Pr T H r with
    | none => rw [h1] at hr; cases hr
    | some d =>
      cases h2 : resAll Pr T H rs with
      | none => rw [h1, h2] at hr; cases hr
      | some ds' =>
        rw [h1, h2] at hr
        simp at hr; subst hr
        obtain ⟨v, q1, q2⟩ := resOne_ok h h1
        obtain ⟨vs, q3, q4⟩ := resAll_ok h h2
        refine ⟨v :: vs, ?_, .cons q2 q4⟩
        rw [List.mapM_cons]
        simp only [Sem.run_bind, q1, Result.andThen_ok, q3, Sem.run_pure]
theorem results_ok {T : Tm} {a : Act} (h : StI nt g T H M env a w) {fn : Func} {ds : List D} (hr : resAll Pr T H fn.results.toList = some ds) :
    ∃ v, (results fn a.tmps).run Pr w = .ok v w ∧ RdD M env (mkRes ds) v := by
  obtain ⟨vs, h1, h2⟩ := resAll_ok h hr
  rw [results_eq, Array.mapM_eq_mapM_toList]
  simp only [Sem.run_bind, Sem.run_map, h1, Result.andThen_ok, Sem.run_pure]
  have htup : RdD M env (.tup ds) (.tuple vs.toArray) := .tup (by simpa using h2.1) (fun i c x q1 q2 => h2.2 i c x q1 (by simpa using q2))
  by_cases hone : vs.length = 1
  · match vs, ds, hone, h2 with
    | [v], [d], _, h2 => exact ⟨v, by simp, (h2.one.elim fun v' hv => by obtain ⟨e, hv⟩ := hv; simp at e; subst e; exact hv)⟩
    | [v], [], _, h2 => exact absurd h2.1 (by simp)
    | [v], d :: d' :: r, _, h2 => exact absurd h2.1 (by simp)
  · refine ⟨.tuple vs.toArray, by simp [hone], ?_⟩
    have : ds.length ≠ 1 := by rw [h2.1]; exact hone
    match ds, this, htup with
    | [], _, ht => exact ht
    | [d], h, _ => exact absurd rfl h
    | d :: d' :: r, _, ht => exact ht

/-- The end of a body. -/
theorem run_ends {k : List CI} {T : Tm} {fn : Func} (hfn : Pr.funcs[f]? = some fn)
    (hs : ∀ (a : Act) (w : World) (b : Frame) (its : List Item) (cs : List Frame), ConcL k its → ∃ todo, Go.step Pr (lone (b.at a its) cs w) = .next (lone { b.at a todo with mode := .returning } cs w))
    (h : RunO Pr f nt m R (retO (resAll Pr T H fn.results.toList) H)) : Run Pr f nt m k T H R := by
  intro g M env a w b its cs hm hf hk hc hst
  cases hr : resAll Pr T H fn.results.toList with
  | none => rw [hr] at h; exact h.elim
  | some ds =>
    rw [hr] at h
    obtain ⟨v, h1, h2⟩ := results_ok hst hr
    obtain ⟨todo, h3⟩ := hs a w b its cs hc
    exact ⟨v, w, _, ⟨mkRes ds, H, M, env, h, hst.h, h2⟩, .one h3, hf, rfl, hst.defers, hk, fn, by rw [← hf] at hfn; exact hfn, h1⟩
end
end Go.Ab
/-
  The abstract machine's steps are the machine's: all of them; contracts.
-/
namespace Go.Ab
variable {M : Mem} {env : List Blk} {H : Heap} {w w' : World} {Pr : Program} {g : G}

theorem Enters.mk {f : FuncId} {fn : Func} {c : Code} (hf : Pr.funcs[f]? = some fn) (hb : fn.body = some c) (hn : (fn.name == "runtime.NumGoroutine") = false) : Enters Pr f := by
  intro args w
  have hn' : ¬ fn.name = "runtime.NumGoroutine" := by simpa using hn
  simp [callFunc, hf, hn', hb]

/-- No part of it points into the heap. -/
def pureD : D → Bool
  | .p _ => true
  | .agg cs => pureL cs
  | .tup cs => pureL cs
  | .iface _ d => pureD d
  | _ => false
where
  pureL : List D → Bool
    | [] => true
    | d :: ds => pureD d && pureL ds

theorem pureL_get {ds : List D} (h : pureD.pureL ds = true) {i : Nat} {d : D} (hd : ds[i]? = some d) : pureD d = true := by
  induction ds generalizing i with
  | nil => simp at hd
  | cons e ds ih =>
    simp only [pureD.pureL, Bool.and_eq_true] at h
    cases i with
    | zero => simp at hd; subst hd; exact h.1
    | succ i => exact ih h.2 (by simpa using hd)
theorem RdD.pure {env' : List Blk} {d : D} {v : Value} (h : RdD M env d v) (hp : pureD d = true) : RdD M env' d v := by
  induction h with
  | p h => exact .p h
  | agg hl h ih => exact .agg hl (fun i c x h1 h2 => ih i c x h1 h2 (pureL_get (by simpa [pureD] using hp) h1))
  | tup hl h ih => exact .tup hl (fun i c x h1 h2 => ih i c x h1 h2 (pureL_get (by simpa [pureD] using hp) h1))
  | iface h ih => exact .iface (ih (by simpa [pureD] using hp))
  | ptr => simp [pureD] at hp
  | ownNil => simp [pureD] at hp
  | own => simp [pureD] at hp
  | mp => simp [pureD] at hp
  | box => simp [pureD] at hp
  | fn => simp [pureD] at hp
theorem RdL.pure {env' : List Blk} {ds : List D} {vs : List Value} (h : RdL M env ds vs) (hp : pureD.pureL ds = true) : RdL M env' ds vs :=
  ⟨h.1, fun i d x h1 h2 => (h.2 i d x h1 h2).pure (pureL_get hp h1)⟩

/-- What a function does, from a heap of so many objects. -/
def Spec (Pr : Program) (f : FuncId) (ds : List D) (H : Heap) (R : D → Heap → Prop) : Prop :=
  Enters Pr f ∧ ∀ (w : World) (M : Mem) (env : List Blk) (vs : List Value) (cs : List Frame), SimH M env H w → RdL M env ds vs →
    Ends Pr f ⟨w, M, env⟩ R (lone (Frame.enter Pr f vs.toArray .normal) cs w) cs

theorem StH.start (h : SimH M env H w) : StH ⟨w, M, env⟩ H M env w where
  ext := Ext.refl _ _
  sim := h
  frame := ⟨Nat.le_refl _, fun _ _ _ => rfl, fun i blk b h1 h2 _ => absurd (get_lt h1) (Nat.not_lt.2 h2), fun b i x hx => .inl hx, SoR.refl _⟩

def args0 : List D → Nat → Tm
  | [], _ => []
  | d :: ds, n => (n, d) :: args0 ds (n + 1)
theorem get_args0 : ∀ (ds : List D) (n i : Nat), get (args0 ds n) i = if n ≤ i then ds[i - n]? else none
  | [], n, i => by simp [args0, get]
  | d :: ds, n, i => by
    simp only [args0, get_cons, get_args0 ds (n + 1) i]
    by_cases h : n = i
    · subst h; simp
    · rcases Nat.lt_or_ge i n with h1 | h1
      · rw [if_neg h, if_neg (by omega), if_neg (by omega)]
      · rw [if_neg h, if_pos (by omega), if_pos (by omega), show i - n = (i - (n + 1)) + 1 by omega]; simp

theorem Spec.of_body {f : FuncId} {fn : Func} {c : Code} {ds : List D} {R : D → Heap → Prop} (hf : Pr.funcs[f]? = some fn) (hb : fn.body = some c) (hn : (fn.name == "runtime.NumGoroutine") = false)
    (h : Run Pr f fn.ntmps H.length [.code c] (args0 ds 0) H R) : Spec Pr f ds H R := by
  refine ⟨Enters.mk hf hb hn, fun w M env vs cs hs hr => ?_⟩
  let b : Frame := { (default : Frame) with fn := f, kind := .normal }
  have henter : Frame.enter Pr f vs.toArray .normal = b.at { tmps := vs.toArray ++ Array.replicate (fn.ntmps - vs.toArray.size) undef, defers := [] } [.code c] := by
    simp [Frame.enter, Frame.at, hf, hb, b]
  rw [henter]
  refine h ⟨w, M, env⟩ M env _ w b [.code c] cs hs.len rfl rfl (.cons (.code c) .nil) ⟨StH.start hs, fun i d hd => ?_, by simp; omega, rfl⟩
  rw [get_args0, if_pos (Nat.zero_le _), Nat.sub_zero] at hd
  obtain ⟨x, hx, hrx⟩ := hr.get hd
  have hlt := get_lt hx
  refine ⟨x, ?_, hrx⟩
  rw [Array.getElem?_append_left (by simpa using hlt)]
  simpa using hx

/-- A contract of a function that only computes. -/
def Pure (Pr : Program) (f : FuncId) (ds : List D) (Q : D → Prop) : Prop :=
  pureD.pureL ds = true ∧ Spec Pr f ds [] (fun r _ => pureD r = true ∧ Q r)

def TabOK (Pr : Program) (tab : Tab) : Prop := ∀ x ∈ tab, ∀ ds p r, x.2 ds = some (p, r) → p → Pure Pr x.1 ds (· = r)
theorem TabOK.nil : TabOK Pr [] := fun x hx => by simp at hx
theorem TabOK.cons {f : FuncId} {F : List D → Option (Prop × D)} {tab : Tab} (h : ∀ ds p r, F ds = some (p, r) → p → Pure Pr f ds (· = r)) (ht : TabOK Pr tab) : TabOK Pr ((f, F) :: tab) := by
  intro x hx
  rcases List.mem_cons.1 hx with rfl | hx
  · exact h
  · exact ht x hx
theorem findTab_mem {tab : Tab} {f : FuncId} {F : List D → Option (Prop × D)} (h : findTab tab f = some F) : (f, F) ∈ tab := by
  induction tab with
  | nil => simp [findTab] at h
  | cons x tab ih =>
    obtain ⟨k, F'⟩ := x
    simp only [findTab] at h
    cases hk : (k == f) with
    | true => rw [hk] at h; simp at h; subst h; exact (show k = f by simpa using hk) ▸ List.mem_cons_self
    | false => rw [hk] at h; simp at h; exact List.mem_cons_of_mem _ (ih h)

section
variable {f : FuncId} {nt m : Nat} {R : D → Heap → Prop}

/-- A call of a function that only computes. -/
theorem RunCall.pure {c : FuncId} {ds : List D} {dst : Option Tmp} {k : List CI} {T : Tm} {Q : D → Prop} (h : Pure Pr c ds Q)
    (hk : ∀ r, pureD r = true → Q r → RunO Pr f nt m R (goO k (putT nt dst r T) H)) : RunCall Pr f nt m c ds dst k T H R := by
  obtain ⟨hp, hen, hs⟩ := h
  refine ⟨hen, fun g M env a w vs fr b its cs hm hf hkd hc hst hr hfin => ?_⟩
  have hsim : SimH M [] [] w := ⟨rfl, fun i blk o h => by simp at h, fun i j bi bj oi oj b h => by simp at h, hst.h.sim.mem, fun i blk o b j h => by simp at h, fun i blk b h => by simp at h⟩
  obtain ⟨v, w', fr', ⟨r, H', M', env', ⟨hpr, hq⟩, hst', hrv⟩, hsteps, hfn, hleave⟩ := hs w M [] vs (fr :: cs) hsim (hr.pure hp)
  have hback : Go.step Pr (lone fr' (fr :: cs) w') = .next (lone (fr.finish v) cs w') := step_leave_returned hleave
  rw [hfin] at hback
  refine Ends.steps (hsteps.trans (.one hback)) ?_
  have hgo := hk r hpr hq
  cases hput : putT nt dst r T with
  | none => rw [hput] at hgo; exact hgo.elim
  | some T' =>
    rw [hput] at hgo
    have hold : ∀ b, b < w.heap.size → w'.heap[b]? = w.heap[b]? := fun b hb => hst'.frame.fr b hb (by simp)
    have hext : Ext M env M' env := ⟨hst'.ext.1, List.prefix_refl _⟩
    have hnewM : ∀ b i x, M' b i = some x → M b i = some x ∨ w.heap.size ≤ b := fun b i x hx => by
      rcases hst'.frame.newM b i x hx with h | h | ⟨blk, h, _⟩
      · exact .inl h
      · exact .inr h
      · simp at h
    have hsim' : SimH M' env H w' := by
      have h0 := hst.h.sim
      refine ⟨h0.len, fun i blk o h1 h2 => (h0.obj i blk o h1 h2).mono hext (fun _ b hb => hold b (h0.lt i blk b h1 hb)), h0.dist, hst'.sim.mem, fun i blk o b j h1 h2 h3 h4 => ?_, fun i blk b h1 h2 => Nat.lt_of_lt_of_le (h0.lt i blk b h1 h2) hst'.frame.hs⟩
      cases hm' : M' b j with
      | none => rfl
      | some x =>
        rcases hnewM b j x hm' with h | h
        · rw [h0.disj i blk o b j h1 h2 h3 h4] at h; cases h
        · have := h0.lt i blk b h1 h4; omega
    have hframe : FrameR g M' env w' := by
      have h0 := hst.h.frame
      have hs0 := hst'.frame.hs
      refine ⟨Nat.le_trans h0.hs hs0, fun b h1 h2 => ?_, h0.newb, fun b i x hx => ?_, h0.so.trans hst'.frame.so⟩
      · rw [hold b (Nat.lt_of_lt_of_le h1 h0.hs)]; exact h0.fr b h1 h2
      · rcases hnewM b i x hx with h | h
        · exact h0.newM b i x h
        · exact .inr (.inl (Nat.le_trans h0.hs h))
    have hstI : StI nt g T H M' env a w' := hst.move hext ⟨hst.h.ext.trans hext, hsim', hframe⟩
    exact hgo g M' env _ w' b its cs hm hf hkd hc (hstI.putT hput (hrv.pure hpr))

/-- What an operation comes to, as the machine goes on. -/
theorem ov_run {tab : Tab} (htab : TabOK Pr tab) {T : Tm} {k : List CI} {dst : Option Tmp} (o : OV) (hR : RunO Pr f nt m R (ovOut tab nt o dst k T H)) (M : Mem) (env : List Blk) (w : World) {a : Act} {b : Frame} {its : List Item} {cs : List Frame}
    (hm : g.env0.length = m) (hf : b.fn = f) (hk : b.kind = .normal) (hc : ConcL k its) (hst : StI nt g T H M env a w) {r : Result Next} (ho : OpOK Pr g M env w r o) {mach : Machine} {fr : Frame} (hfin : ∀ v, fr.finish v = b.at (a.put dst v) its)
    (hval : ∀ v w', (r = .ok (.value v) w' ∨ (r = .ok .skip w' ∧ v = undef)) → Go.step Pr mach = .next (lone (fr.finish v) cs w'))
    (hcall : ∀ c args, r = .ok (.enter c args) w → Go.step Pr mach = .next (lone (Frame.enter Pr c args .normal) (fr :: cs) w)) :
    Ends Pr f g R mach cs := by
  induction o with
  | val d H' =>
    obtain ⟨v, w', M', env', h1, h2, h3, h4⟩ := ho
    have hs := hval v w' h1
    rw [hfin] at hs
    refine .step hs ?_
    simp only [ovOut] at hR
    cases hput : putT nt dst d T with
    | none => rw [hput] at hR; exact hR.elim
    | some T' =>
      rw [hput] at hR
      exact hR g M' env' _ w' b its cs hm hf hk hc ((hst.move h2 h3).putT hput h4)
  | call c ds =>
    obtain ⟨vs, h1, h2⟩ := ho
    simp only [ovOut] at hR
    have hrc : RunCall Pr f nt m c ds dst k T H R := by
      cases hft : findTab tab c with
      | none => rw [hft] at hR; exact hR
      | some F =>
        rw [hft] at hR
        simp only [outTab] at hR
        cases hF : F ds with
        | none => rw [hF] at hR; exact hR
        | some pr =>
          obtain ⟨p, r⟩ := pr
          rw [hF] at hR
          obtain ⟨hp, hgo⟩ := hR
          exact RunCall.pure (htab _ (findTab_mem hft) ds p r hF hp) (fun r' _ e => e ▸ hgo)
    obtain ⟨hen, hrun⟩ := hrc
    have hs := hcall c vs.toArray (by rw [h1]; exact hen _ _)
    exact .step hs (hrun g M env a w vs fr b its cs hm hf hk hc hst h2 hfin)
  | pre p o ih => exact ih hR.2 (ho hR.1)
  | bad => exact hR.elim

theorem step_ok {tab : Tab} (htab : TabOK Pr tab) {fn : Func} (hfn : Pr.funcs[f]? = some fn) {k : List CI} {T : Tm} (hR : RunO Pr f nt m R (Ab.step Pr tab fn.results.toList nt k T H)) : Run Pr f nt m k T H R := by
  cases k with
  | nil =>
    refine run_ends hfn (fun a w b its cs hc => ?_) hR
    cases hc
    exact ⟨_, step_end⟩
  | cons x k =>
    cases x with
    | blk id => exact .of_step (fun a w b its cs hc => by obtain ⟨y, l, rfl, h1, h2⟩ := hc.cons_inv; rw [h1.blk_inv]; exact ⟨l, h2, step_inBlock⟩) hR
    | lp c => exact .of_step (fun a w b its cs hc => by obtain ⟨y, l, rfl, h1, h2⟩ := hc.cons_inv; rw [h1.lp_inv]; exact ⟨_, .cons (.code c) (.cons (.lp c) h2), step_inLoop⟩) hR
    | code c =>
      cases c with
      | skip => exact .of_step (fun a w b its cs hc => by obtain ⟨y, l, rfl, h1, h2⟩ := hc.cons_inv; rw [h1.code_inv]; exact ⟨l, h2, step_skip⟩) hR
      | seq x y => exact .of_step (fun a w b its cs hc => by obtain ⟨_, l, rfl, h1, h2⟩ := hc.cons_inv; rw [h1.code_inv]; exact ⟨_, .cons (.code x) (.cons (.code y) h2), step_seq⟩) hR
      | block id c => exact .of_step (fun a w b its cs hc => by obtain ⟨_, l, rfl, h1, h2⟩ := hc.cons_inv; rw [h1.code_inv]; exact ⟨_, .cons (.code c) (.cons (.blk id) h2), step_block⟩) hR
      | loop c => exact .of_step (fun a w b its cs hc => by obtain ⟨_, l, rfl, h1, h2⟩ := hc.cons_inv; rw [h1.code_inv]; exact ⟨_, .cons (.code c) (.cons (.lp c) h2), step_loop⟩) hR
      | cond c x y =>
        simp only [Ab.step] at hR
        intro g M env a w b its cs hm hf hk hc hst
        cases he : ev T c with
        | none => rw [he] at hR; exact hR.elim
        | some d =>
          rw [he] at hR
          unfold condO at hR
          split at hR
          · rename_i t ht
            simp at ht; subst ht
            obtain ⟨_, l, rfl, h1, h2⟩ := hc.cons_inv
            rw [h1.code_inv]
            have hb := bool_inv (ev_rd hst he)
            refine .step (step_cond hb) (hR g M env a w b _ cs hm hf hk (.cons ?_ h2) hst)
            cases t <;> exact .code _
          · exact hR.elim
      | exit id =>
        simp only [Ab.step] at hR
        cases he : exitC id k with
        | none => rw [he] at hR; exact hR.elim
        | some k' =>
          rw [he] at hR
          exact .of_step (fun a w b its cs hc => by
            obtain ⟨_, l, rfl, h1, h2⟩ := hc.cons_inv; rw [h1.code_inv]
            obtain ⟨its', h3, h4⟩ := exitC_ok he h2
            exact ⟨its', h4, step_exit h3⟩) hR
      | ret =>
        refine run_ends hfn (fun a w b its cs hc => ?_) hR
        obtain ⟨_, l, rfl, h1, h2⟩ := hc.cons_inv; rw [h1.code_inv]
        exact ⟨_, step_ret⟩
      | region id ops draw =>
        cases draw with
        | false => exact .of_step (fun a w b its cs hc => by
            obtain ⟨_, l, rfl, h1, h2⟩ := hc.cons_inv; rw [h1.code_inv]
            exact ⟨_, .cons (.ops (n := 0) rfl (by simp) (by simp [List.range_eq_range'])) h2, step_region⟩) hR
        | true => exact hR id ops rfl
      | _ => exact hR.elim
    | ops al l =>
      cases l with
      | nil =>
        exact .of_step (fun a w b its cs hc => by
          obtain ⟨y, l, rfl, h1, h2⟩ := hc.cons_inv
          cases h1 with
          | ops h3 h4 h5 =>
            rename_i all n is
            have : all.size ≤ n := by
              have := congrArg List.length h4
              simp [← h3] at this; omega
            have hi : is = [] := by rw [h5]; simp; omega
            rw [hi]
            exact ⟨_, h2, step_region_end⟩) hR
      | cons o l =>
        simp only [Ab.step] at hR
        intro g M env a w b its cs hm hf hk hc hst
        obtain ⟨y, its', rfl, h1, h2⟩ := hc.cons_inv
        cases h1 with
        | ops h3 h4 h5 =>
          rename_i all n is
          have hn : n < all.size := by
            rcases Nat.lt_or_ge n all.size with h | h
            · exact h
            · rw [List.drop_eq_nil_of_le (by rw [← h3]; simpa using h)] at h4; cases h4
          have ho : all[n]? = some o := by
            have : al[n]? = some o := by
              have := congrArg (fun l => l[0]?) h4
              simp at this
              exact this.symm
            rw [← h3] at this; simpa using this
          have his : is = n :: List.range' (n + 1) (all.size - (n + 1)) := by
            rw [h5, show all.size - n = (all.size - (n + 1)) + 1 by omega, List.range'_succ]
          have hl : l = al.drop (n + 1) := by
            have := congrArg List.tail h4
            simpa using this
          have hc' : ConcL (.ops al l :: k) (.inRegion all (List.range' (n + 1) (all.size - (n + 1))) :: its') := .cons (.ops h3 hl rfl) h2
          rw [his]
          cases hg : guardO al T o.guard with
          | none => rw [hg] at hR; exact hR.elim
          | some gb =>
            rw [hg] at hR
            have hw := guardO_ok hst h3 hg
            cases gb with
            | false =>
              simp only [opStep] at hR
              have hsk := step_op_skip (P := Pr) (b := b) (a := a) (k := its') (cs := cs) (w := w) (ops := all) (i := n) (rest := List.range' (n + 1) (all.size - (n + 1))) (by simp [ho, hw])
              simp only [ho, Option.bind_some] at hsk
              refine .step hsk ?_
              cases hput : putT nt o.dst undefD T with
              | none => rw [hput] at hR; exact hR.elim
              | some T' => rw [hput] at hR; exact hR g M env _ w b _ cs hm hf hk hc' (hst.putT hput (.p .undef))
            | true =>
              simp only [opStep] at hR
              cases hev : evs T (opnds o.op) with
              | none => rw [hev] at hR; exact hR.elim
              | some ds =>
                rw [hev] at hR
                have hrd := evs_rd hst hev
                rw [opnds_eq] at hrd
                have hop := opv_ok (Pr := Pr) (o := o) (ρ := a.eval) hst.h hrd
                have hgs := stepG_op (P := Pr) (b := b) (k := its') (cs := cs) (w := w) (rest := List.range' (n + 1) (all.size - (n + 1))) ho hw
                have hfin : ∀ v, (b.at a (.inRegion all (n :: List.range' (n + 1) (all.size - (n + 1))) :: its')).finish v = b.at (a.put o.dst v) (.inRegion all (List.range' (n + 1) (all.size - (n + 1))) :: its') := by
                  intro v; rw [Frame.finish_at, ho]; rfl
                refine ov_run htab _ hR M env w hm hf hk hc' hst hop hfin ?_ ?_
                · rintro v w' (hr | ⟨hr, rfl⟩)
                  · exact step_lone_go (by rw [hgs]; simp [stepG.apply, hr])
                  · exact step_lone_go (by rw [hgs]; simp [stepG.apply, hr])
                · intro c args hr
                  exact step_lone_go (by rw [hgs]; simp [stepG.apply, hr, Frame.at])

theorem contO_ok {F : List CI → Tm → Heap → Out} (hF : ∀ k T H, RunO Pr f nt m R (F k T H) → Run Pr f nt m k T H R) : ∀ o, RunO Pr f nt m R (contO F o) → RunO Pr f nt m R o
  | .go k T H, h => hF k T H h
  | .pre p o, h => ⟨h.1, contO_ok hF o h.2⟩
  | .call _ _ _ _ _ _, h => h
  | .ret _ _, h => h
  | .loop _ _ _ _, h => h
  | .draw _ _ _ _, h => h
  | .bad, h => h

/-- **The abstract machine goes on by so many steps.** -/
theorem exec_ok {tab : Tab} (htab : TabOK Pr tab) {fn : Func} (hfn : Pr.funcs[f]? = some fn) : ∀ (n : Nat) {k : List CI} {T : Tm} {H : Heap}, RunO Pr f nt m R (exec Pr tab fn.results.toList nt n k T H) → Run Pr f nt m k T H R
  | 0, _, _, _, h => h
  | n + 1, _, _, _, h => step_ok htab hfn (contO_ok (fun _ _ _ h => exec_ok htab hfn n h) _ h)
end
end Go.Ab
/-
  What each operation asks, as a proposition: the objects that it looks up are asked for, a truth that is not known parts the road.
-/
namespace Go.Ab
variable {Pr : Program}

/-- What must hold, and what follows. -/
def PreP (p A : Prop) : Prop := p ∧ A
def OV.sat (Kv : D → Heap → Prop) (Kc : FuncId → List D → Prop) : OV → Prop
  | .val d H => Kv d H
  | .call f ds => Kc f ds
  | .pre p o => PreP p (o.sat Kv Kc)
  | .bad => False

def Need (H : Heap) (id : Nat) (F : Obj → Prop) : Prop := ∃ o, nth H id = some o ∧ F o
def NeedRows (H : Heap) (id : Nat) (F : List (List D) → Prop) : Prop := ∃ rs, nth H id = some (.rows rs) ∧ F rs
def NeedMap (H : Heap) (id : Nat) (F : List (P × D) → List Nat → Nat → Prop) : Prop := ∃ es bs ck, nth H id = some (.map es bs ck) ∧ F es bs ck
/-- How long a slice is. -/
def NeedLen (d : D) (F : Nat → Prop) : Prop := ∃ n, lenD d = some n ∧ F n
def NeedRow (rs : List (List D)) (r : Nat) (F : List D → Prop) : Prop := ∃ row, nth rs r = some row ∧ F row
def EqP {α : Type} (x : α) (F : α → Prop) : Prop := ∃ y, x = y ∧ F y
def OptP (r : Option D) (F : Option D → Prop) : Prop := (∀ d, r = some d → F (some d)) ∧ (r = none → F none)
def Br (t : Bool) (A B : Prop) : Prop := (t = true → A) ∧ (t = false → B)
def NewP (H : Heap) (o : Obj) (F : Nat → Heap → Prop) : Prop := ∀ id, id = H.length → F id (H ++ [o])
/-- A slice of its own; or one that is never written again. -/
def NewSlice (H : Heap) (k : Nat) (rows : List (List D)) (len : Nat) (cap : Option Nat) (F : D → Heap → Prop) : Prop :=
  (∀ id, id = H.length → F (.own id k 0 len cap) (H ++ [.rows rows])) ∨
  (∃ ps : List (List P), rows = ps.map (·.map D.p) ∧ len = ps.length ∧ (∀ r ∈ ps, r.length = k) ∧ F (.p (.lst ps)) H)
/-- A slice that is made: its own, or one that is never written. -/
def NewMade (size : Nat) (n c : Int) (zc : List D) (H : Heap) (F : D → Heap → Prop) : Prop :=
  (∀ id, id = H.length → F (.own id size 0 n.toNat (some c.toNat)) (H ++ [.rows (List.replicate c.toNat zc)])) ∨
  (n = c ∧ ∃ pc : List P, zc = pc.map D.p ∧ F (.p (.lst (List.replicate c.toNat pc))) H)
/-- What is appended to a slice of its own. -/
def AppTo (H : Heap) (id k start len : Nat) (cap : Option Nat) (rs xs : List (List D)) (size : Nat) (F : D → Heap → Prop) : Prop :=
  match cap with
  | none => ∀ id', id' = H.length → F (.own id' size 0 (len + xs.length) none) (setN H id .gone ++ [.rows ((rs.drop start).take len ++ xs)])
  | some c => (len + xs.length ≤ c → F (.own id k start (len + xs.length) (some c)) (setN H id (.rows (rs.take (start + len) ++ xs ++ rs.drop (start + len + xs.length))))) ∧
      (c < len + xs.length → ∀ id', id' = H.length → F (.own id' size 0 (len + xs.length) none) (H ++ [.rows ((rs.drop start).take len ++ xs)]))
def rowsP (x : D) (H : Heap) (F : List (List D) → Prop) : Prop :=
  match x with
  | .p .nil => F []
  | .p (.lst rows) => F (rows.map (·.map D.p))
  | .own id _ start len _ => NeedRows H id fun rs => F ((rs.drop start).take len)
  | _ => False

section
variable (Kv : D → Heap → Prop) (Kc : FuncId → List D → Prop)

def opLoadP (ti : TI) (d : D) (H : Heap) : Prop :=
  match d with
  | .ptr id r off => NeedRows H id fun rs => NeedRow rs r fun row => (ovOfRow ti row off H).sat Kv Kc
  | .p (.vptr row off) => EqP row fun row => (ovOfRowP ti row off H).sat Kv Kc
  | _ => False
def storeCs (ti : TI) (id r off : Nat) (rs : List (List D)) (row : List D) (H : Heap) (cs : Option (List D)) : OV :=
  match cs with
  | some cs => opStoreCells ti id r off rs row cs H
  | none => .bad
def opStoreP (ti : TI) (d x : D) (H : Heap) : Prop :=
  match d with
  | .ptr id r off => NeedRows H id fun rs => NeedRow rs r fun row => (storeCs ti id r off rs row H (cellsOf x)).sat Kv Kc
  | _ => False
def opNewP (cs : Option (List D)) (H : Heap) : Prop :=
  match cs with
  | some cs => NewP H (.rows [cs]) fun id H' => Kv (.ptr id 0 0) H'
  | none => False
def opPickP (c a b : D) (H : Heap) : Prop :=
  match c with
  | .p (.bool t) => Br t (Kv a H) (Kv b H)
  | _ => False
def bytesP (x : D) (H : Heap) (rs : List (List D)) : Prop := ∃ l, PreP (bytesOfD rs = some l) (PreP (lenD x = some rs.length) (Kv (.p (.str l)) H))
def opConvertP (same : Bool) (src dst : TI) (dk sk : Option TK) (x : D) (H : Heap) : Prop :=
  match src.tk, dst.tk, x with
  | _, .int k, .p (.int _ n) => Kv (.p (.int k (k.wrap n))) H
  | _, .str, .p (.str l) => Kv (.p (.str l)) H
  | _, .slice _, .p (.str l) => match dk with
    | some (.int .u8) => NewSlice H 1 (l.map byteRowD) l.length none Kv
    | _ => False
  | .slice _, .str, x => match sk with
    | some (.int .u8) => rowsP x H fun rs => bytesP Kv x H rs
    | _ => False
  | .slice _, .slice _, .own id k start len cap => match same, dk with
    | true, some (.int .u8) => bif Nat.blt 0 len then NeedRows H id fun _ => Kv (.own id k start len cap) H else False
    | _, _ => False
  | _, _, _ => False
def newRows (size len : Nat) (H : Heap) (rows : Option (List (List D))) : Prop :=
  match rows with
  | some rows => NewSlice H size rows len (some len) Kv
  | none => False
def opBuildSliceP (ei : TI) (len : Nat) (is : List Nat) (ds : List D) (H : Heap) : Prop :=
  match zeroCells ei with
  | none => False
  | some zc => bif Nat.ble (len * ei.size) 16777216 && zc.length == ei.size && Nat.ble 1 ei.size then
      newRows Kv ei.size len H (fillRows ei.size (List.replicate len zc) is ds)
    else False
def opMakeSliceP (ei : TI) (len cap : D) (H : Heap) : Prop :=
  match len, cap with
  | .p (.int _ n), .p (.int _ c) => match zeroCells ei with
    | none => False
    | some zc => bif zc.length == ei.size && Nat.ble 1 ei.size then
      PreP (0 ≤ n ∧ n ≤ c ∧ (ei.bytes : Int) * c ≤ maxRoom ∧ c ≤ maxS)
        (NewMade ei.size n c zc H Kv)
      else False
  | _, _ => False
def appendedP (tk : TK) (x : D) (H : Heap) (F : List (List D) → Prop) : Prop :=
  match tk, x with
  | .str, .p (.str l) => F (l.map byteRowD)
  | .slice _, d => rowsP d H F
  | _, _ => False
def opAppendToP (ei : TI) (s : D) (H : Heap) (xs : List (List D)) : Prop :=
  bif elemOK ei then
  match s with
  | .p .nil => PreP (xs.length * ei.bytes ≤ maxRoom ∧ xs.length ≤ maxS ∧ (∀ r ∈ xs, r.length = ei.size)) (NewSlice H ei.size xs xs.length none Kv)
  | .own id k start len cap => NeedRows H id fun rs => bif k == ei.size then
      PreP ((len + xs.length) * ei.bytes ≤ maxRoom ∧ len + xs.length ≤ maxS ∧ (∀ r ∈ xs, r.length = ei.size) ∧ (∀ r ∈ xs, ∀ d ∈ r, isOne d = true) ∧ start + len ≤ rs.length)
        (AppTo H id k start len cap rs xs ei.size Kv)
      else False
  | _ => False
  else False
def opCopyP (ei : TI) (s : D) (H : Heap) (xs : List (List D)) : Prop :=
  match s with
  | .own id k start len _ => NeedRows H id fun rs => bif k == ei.size then
      PreP ((∀ r ∈ xs, r.length = ei.size) ∧ (∀ r ∈ xs, ∀ d ∈ r, isOne d = true) ∧ start + len ≤ rs.length)
        (Kv (i64 (min xs.length len : Nat)) (setN H id (.rows (rs.take start ++ xs.take (min xs.length len) ++ rs.drop (start + min xs.length len)))))
    else False
  | _ => False
def opLenP (tk : TK) (x : D) (H : Heap) : Prop :=
  match tk, x with
  | .map _ _, .mp id => NeedMap H id fun es _ _ => Kv (i64 es.length) H
  | .slice _, d => NeedLen d fun n => Kv (i64 n) H
  | tk, x => (opLen tk x H).sat Kv Kc
def lookedUpP (ok : Bool) (z : P) (r : Option D) (H : Heap) : Prop := OptP r fun r => (lookedUp ok z r H).sat Kv Kc
def opLookupP (kk : TK) (z : P) (m : D) (k : D) (ok : Bool) (H : Heap) : Prop :=
  match m, k with
  | .mp id, .p k => NeedMap H id fun es _ _ => PreP (keysOk kk es ∧ keyOk kk k = true) (lookedUpP Kv Kc ok z (lookE es k) H)
  | _, _ => False
def opMapUpdateP (kk : TK) (m : D) (k x : D) (H : Heap) : Prop :=
  match m, k with
  | .mp id, .p k => NeedMap H id fun es bs ck => PreP (keysOk kk es ∧ keyOk kk k = true) (Kv undefD (setN H id (.map (updE es k x) (updB es k bs ck) (updC es k ck))))
  | _, _ => False
def opDeleteP (kk : TK) (m : D) (k : D) (H : Heap) : Prop :=
  match m, k with
  | .mp id, .p k => NeedMap H id fun es bs ck => PreP (keysOk kk es ∧ keyOk kk k = true) (Kv (.tup []) (setN H id (.map (delE es k) (delB es k bs) ck)))
  | _, _ => False
def withP {α : Type} (o : Option α) (f : α → Prop) : Prop :=
  match o with
  | some ti => f ti
  | none => False
def opBuiltinP (Pr : Program) (b : Builtin) (ts : List TypeId) (ds : List D) (H : Heap) : Prop :=
  match b with
  | .len => match ts, ds with
    | [t], [d] => withP (tyOf Pr t) fun ti => opLenP Kv Kc ti.tk d H
    | _, _ => False
  | .append => match ts, ds with
    | [t, u], [s, x] => withP (tyOf Pr t) fun ti => withP (elemS Pr ti.tk) fun ei => withP (tyOf Pr u) fun ui =>
      appendedP ui.tk x H fun xs => PreP (appLen x xs) (opAppendToP Kv ei s H xs)
    | _, _ => False
  | .copy => match ts, ds with
    | [t, u], [s, x] => withP (tyOf Pr t) fun ti => withP (elemS Pr ti.tk) fun ei => withP (tyOf Pr u) fun ui =>
      appendedP ui.tk x H fun xs => PreP (appLen x xs) (bif notStr ui.tk then opCopyP Kv ei s H xs else False)
    | _, _ => False
  | .delete => match ts, ds with
    | t :: _, [m, k] => withP (tyOf Pr t) fun ti => withP (keyTK Pr ti.tk) fun kk => opDeleteP Kv kk m k H
    | _, _ => False
  | b => (opBuiltin Pr b ts ds H).sat Kv Kc

def opvP (Pr : Program) (op : Op) (ds : List D) (H : Heap) : Prop :=
  match op with
  | .pick _ _ _ => match ds with
    | [c, a, b] => opPickP Kv c a b H
    | _ => False
  | .alloc t => withP (tyOf Pr t) fun ti => opNewP Kv (cellsOf (.p ti.zero)) H
  | .box _ _ => match ds with
    | [d] => opNewP Kv (cellsOf d) H
    | _ => False
  | .buildSlice t len parts => withP (tyOf Pr t) fun ti => withP (elemS Pr ti.tk) fun ei => opBuildSliceP Kv ei len (parts.toList.map (·.1)) ds H
  | .load t _ => match ds with
    | [d] => withP (tyOf Pr t) fun ti => opLoadP Kv Kc ti d H
    | _ => False
  | .store t _ _ => match ds with
    | [d, x] => withP (tyOf Pr t) fun ti => opStoreP Kv Kc ti d x H
    | _ => False
  | .convert s d _ => match ds with
    | [x] => withP (tyOf Pr s) fun si => withP (tyOf Pr d) fun di => opConvertP Kv (s == d) si di ((elemTI Pr di.tk).map (·.tk)) ((elemTI Pr si.tk).map (·.tk)) x H
    | _ => False
  | .makeMap _ none => NewP H (.map [] [] 0) fun id H' => Kv (.mp id) H'
  | .makeSlice t _ _ => match ds with
    | [l, c] => withP (tyOf Pr t) fun ti => withP (elemS Pr ti.tk) fun ei => opMakeSliceP Kv ei l c H
    | _ => False
  | .lookup t _ _ ok => match ds with
    | [m, k] => withP (tyOf Pr t) fun ti => match ti.tk with
      | .map kt et => withP (tyOf Pr kt) fun ki => withP (tyOf Pr et) fun ei => opLookupP Kv Kc ki.tk ei.zero m k ok H
      | _ => False
    | _ => False
  | .mapUpdate t _ _ _ => match ds with
    | [m, k, x] => withP (tyOf Pr t) fun ti => withP (keyTK Pr ti.tk) fun kk => opMapUpdateP Kv kk m k x H
    | _ => False
  | .call c => match c.callee with
    | .builtin b => opBuiltinP Kv Kc Pr b c.argTypes.toList ds H
    | .value _ => (opCallee ds).sat Kv Kc
    | .invoke _ _ => False
  | op => (opv Pr op ds H).sat Kv Kc
end
end Go.Ab
/-
  A slice of its own that is never written again.
-/
namespace Go.Ab
variable {Pr : Program} {M M' : Mem} {env : List Blk} {H : Heap} {w w' : World} {g : G}

theorem env_app {l : List Blk} {i : Nat} {b b' : Blk} (h : env[i]? = some b) (h' : (env ++ l)[i]? = some b') : env[i]? = some b' := by
  rw [List.getElem?_append_left (get_lt h)] at h'; exact h'

theorem RdD.shrink {l : List Blk} {d : D} {x : Value} (h : RdD M env d x) : ∀ {y : Value}, RdD M' (env ++ l) d y → RdD M' env d y := by
  induction h with
  | p h => intro y h'; cases h' with | p h' => exact .p h'
  | ptr h hb => intro y h'; cases h' with | ptr h1 h2 => exact .ptr (env_app h h1) h2
  | ownNil h hb hk hc => intro y h'; cases h' with
    | ownNil h1 h2 h3 h4 => exact .ownNil (env_app h h1) h2 h3 h4
    | own h1 h2 h3 h4 h5 h6 h7 => exact .own (env_app h h1) h2 h3 h4 h5 h6 h7
  | own h hb hk ho hl hn hc => intro y h'; cases h' with
    | ownNil h1 h2 h3 h4 => exact .ownNil (env_app h h1) h2 h3 h4
    | own h1 h2 h3 h4 h5 h6 h7 => exact .own (env_app h h1) h2 h3 h4 h5 h6 h7
  | mp h hb => intro y h'; cases h' with | mp h1 h2 => exact .mp (env_app h h1) h2
  | box h hb hM => intro y h'; cases h' with | box h1 h2 h3 => exact .box (env_app h h1) h2 h3
  | agg hl h ih => intro y h'; cases h' with
    | agg hl' h1 => exact .agg hl' (fun i c x h2 h3 => by
        obtain ⟨z, hz⟩ : ∃ z, _[i]? = some z := ⟨_, Array.getElem?_eq_getElem (by rw [← hl]; exact get_lt h2)⟩
        exact ih i c z h2 hz (h1 i c x h2 h3))
  | tup hl h ih => intro y h'; cases h' with
    | tup hl' h1 => exact .tup hl' (fun i c x h2 h3 => by
        obtain ⟨z, hz⟩ : ∃ z, _[i]? = some z := ⟨_, Array.getElem?_eq_getElem (by rw [← hl]; exact get_lt h2)⟩
        exact ih i c z h2 hz (h1 i c x h2 h3))
  | fn hlf hlc hf hc ihf ihc => intro y h'; cases h' with
    | fn a1 a2 a3 a4 => exact .fn a1 a2 (fun i c x h2 h3 => by
        obtain ⟨z, hz⟩ : ∃ z, _[i]? = some z := ⟨_, Array.getElem?_eq_getElem (by rw [← hlf]; exact get_lt h2)⟩
        exact ihf i c z h2 hz (a3 i c x h2 h3)) (fun i c x h2 h3 => by
        obtain ⟨z, hz⟩ : ∃ z, _[i]? = some z := ⟨_, Array.getElem?_eq_getElem (by rw [← hlc]; exact get_lt h2)⟩
        exact ihc i c z h2 hz (a4 i c x h2 h3))
  | iface h ih => intro y h'; cases h' with | iface h' => exact .iface (ih h')

theorem ObjR.shrink {l : List Blk} {blk : Blk} {o : Obj} (h : ObjR M env w blk o) (h' : ObjR M' (env ++ l) w' blk o) : ObjR M' env w' blk o := by
  cases o with
  | gone => trivial
  | rows rs =>
    simp only [ObjR] at h h' ⊢
    cases hb : blk.b with
    | none => simpa [hb] using h
    | some b =>
      simp only [hb] at h h' ⊢
      obtain ⟨c, e, fro, h1, h2, h3, h4, h5, h6⟩ := h
      obtain ⟨c', e', fro', h1', h2', h3', h4', h5', h6'⟩ := h'
      refine ⟨c', e', fro', h1', h2', h3', h4', fun i j row d hi hj => ?_, h6'⟩
      obtain ⟨x, hx, hr⟩ := h5 i j row d hi hj
      obtain ⟨x', hx', hr'⟩ := h5' i j row d hi hj
      exact ⟨x', hx', hr.shrink hr'⟩
  | iter mid since seen last =>
    obtain ⟨b, hb, hz, bm, mb, h1, h2, h3⟩ := h
    obtain ⟨b', hb', hz', bm', mb', h1', h2', h3'⟩ := h'
    exact ⟨b', hb', hz', bm', mb', env_app h1 h1', h2', h3'⟩
  | map es bs ck =>
    obtain ⟨b, hb, ents, h1, h2, h4, h3⟩ := h
    obtain ⟨b', hb', ents', h1', h2', h4', h3'⟩ := h'
    refine ⟨b', hb', ents', h1', h2', h4', fun i k d m hi hm => ?_⟩
    have hlt : i < ents.size := by rw [← h2]; exact get_lt hi
    have a := h3 i k d _ hi (Array.getElem?_eq_getElem hlt)
    have a' := h3' i k d m hi hm
    exact ⟨a'.1, a.2.shrink a'.2⟩

theorem StH.freeze {env' : List Blk} {ps : List (List P)} {k : Nat} {cap : Option Nat} {v : Value} (h0 : StH g H M env w) (he : Ext M env M' env')
    (h : StH g (H ++ [.rows (ps.map (·.map D.p))]) M' env' w') (hk : ∀ r ∈ ps, r.length = k) (hv : RdD M' env' (.own H.length k 0 ps.length cap) v) :
    ∃ M'', Ext M env M'' env ∧ StH g H M'' env w' ∧ RdD M'' env (.p (.lst ps)) v := by
  obtain ⟨l, rfl⟩ := he.2
  have hlen := h0.sim.len
  have hlen' := h.sim.len
  obtain ⟨blk, rfl⟩ : ∃ blk, l = [blk] := by
    simp at hlen'
    have : l.length = 1 := by omega
    exact List.length_eq_one_iff.1 this
  have hge : g.env0.length ≤ env.length := h0.ext.2.length_le
  have hnew : (env ++ [blk])[env.length]? = some blk := by simp
  have hob : (H ++ [Obj.rows (ps.map (·.map D.p))])[env.length]? = some (.rows (ps.map (·.map D.p))) := by rw [hlen]; simp
  have hobj := h.sim.obj _ _ _ hnew hob
  have hold : ∀ {i : Nat} {b : Blk}, env[i]? = some b → (env ++ [blk])[i]? = some b := fun hi => prefix_get (List.prefix_append _ _) hi
  have holdH : ∀ {i : Nat} {o : Obj}, H[i]? = some o → (H ++ [Obj.rows (ps.map (·.map D.p))])[i]? = some o := fun hi => prefix_get (List.prefix_append _ _) hi
  have hshr : ∀ {M'' : Mem}, MemLe M' M'' → ∀ (i : Nat) (b : Blk) (o : Obj), env[i]? = some b → H[i]? = some o → ObjR M'' env w' b o := fun hm i b o h1 h2 =>
    (h0.sim.obj i b o h1 h2).shrink ((h.sim.obj i b o (hold h1) (holdH h2)).mono ⟨hm, List.prefix_refl _⟩ (fun _ _ _ => rfl))
  have hnone : (∀ b, blk.b = some b → False) → ∃ M'', Ext M env M'' env ∧ StH g H M'' env w' ∧ RdD M'' env (.p (.lst ps)) v := by
    intro hb
    refine ⟨M', ⟨he.1, List.prefix_refl _⟩, ⟨⟨h.ext.1, h0.ext.2⟩, ⟨hlen, hshr (MemLe.refl _), fun i j bi bj oi oj b h1 h2 h3 h4 => h.sim.dist i j bi bj oi oj b (hold h1) (hold h2) (holdH h3) (holdH h4), h.sim.mem,
      fun i bl o b j h1 h2 => h.sim.disj i bl o b j (hold h1) (holdH h2), fun i bl b h1 => h.sim.lt i bl b (hold h1)⟩,
      ⟨h.frame.hs, h.frame.fr, fun i bl b h1 => h.frame.newb i bl b (hold h1), h.frame.newM, h.frame.so⟩⟩, ?_⟩
    have hb' : blk.b = none := by
      cases hbb : blk.b with
      | none => rfl
      | some b => exact (hb b hbb).elim
    generalize hn : ps.length = n at hv
    cases hv with
    | own h1 h2 h3 h4 h5 h6 h7 => rw [← hlen, hnew] at h1; simp at h1; subst h1; rw [hb'] at h2; cases h2
    | ownNil => 
      simp only [ObjR, hb'] at hobj
      have : ps = [] := by simpa using hobj
      subst this
      exact .p .lstNil
  cases hbb : blk.b with
  | none => exact hnone (fun b hb => by rw [hbb] at hb; cases hb)
  | some b =>
    simp only [ObjR, hbb] at hobj
    obtain ⟨c, e, fro, c1, c2, c3, c4, c5, c6⟩ := hobj
    have hpM : ∀ j, M' b j = none := fun j => h.sim.disj _ _ _ b j hnew hob rfl hbb
    let M'' : Mem := fun b' i => if b' = b then c[i]? else M' b' i
    have hle : MemLe M' M'' := fun b' i x hx => by
      by_cases hbe : b' = b
      · subst hbe; rw [hpM i] at hx; cases hx
      · simp [M'', hbe, hx]
    refine ⟨M'', ⟨he.1.trans hle, List.prefix_refl _⟩, ⟨⟨h.ext.1.trans hle, h0.ext.2⟩, ⟨hlen, hshr hle, fun i j bi bj oi oj b h1 h2 h3 h4 => h.sim.dist i j bi bj oi oj b (hold h1) (hold h2) (holdH h3) (holdH h4), ?_, ?_,
      fun i bl b h1 => h.sim.lt i bl b (hold h1)⟩, ⟨h.frame.hs, h.frame.fr, fun i bl b h1 => h.frame.newb i bl b (hold h1), ?_, h.frame.so⟩⟩, ?_⟩
    · intro b' i x hx
      by_cases hbe : b' = b
      · subst hbe; simp only [M'', if_true] at hx; rw [cell_mk c1]; exact hx
      · simp only [M'', hbe, if_false] at hx; exact h.sim.mem b' i x hx
    · intro i bl o b' j h1 h2 h3 h4
      by_cases hbe : b' = b
      · subst hbe
        have := h.sim.dist i env.length bl blk o _ b' (hold h1) hnew (holdH h2) hob h3 rfl h4 hbb
        have := get_lt h1
        omega
      · simp only [M'', hbe, if_false]; exact h.sim.disj i bl o b' j (hold h1) (holdH h2) h3 h4
    · intro b' i x hx
      by_cases hbe : b' = b
      · subst hbe
        rcases h.frame.newb _ _ _ hnew hge hbb with h1 | h1
        · exact .inr (.inl h1)
        · exact .inr (.inr h1)
      · simp only [M'', hbe, if_false] at hx; exact h.frame.newM b' i x hx
    · generalize hn : ps.length = n at hv
      cases hv with
      | ownNil h1 h2 h3 h4 => rw [← hlen, hnew] at h1; simp at h1; subst h1; rw [h2] at hbb; cases hbb
      | own h1 h2 h3 h4 h5 h6 h7 =>
        rename_i blk' b' o' cp
        rw [← hlen, hnew] at h1; simp at h1; subst h1
        rw [hbb] at h2; simp at h2; subst h2
        subst h3
        subst hn
        have hcell : ∀ (i j : Nat) (row : List P) (p : P), ps[i]? = some row → row[j]? = some p → ∃ x, c[blk.o + i * blk.k + j]? = some x ∧ RdP M'' p x := by
          intro i j row p hi hj
          obtain ⟨x, hx, hr⟩ := c5 i j (row.map D.p) (.p p) (by simp [hi]) (by simp [hj])
          cases hr with
          | p hr => exact ⟨x, hx, hr.mono hle⟩
        refine .p (.lst (k := blk.k) (c := fun i j => (c[blk.o + i * blk.k + j]?).getD default) hk h5 (fun i j row p hi hj => ?_) (fun i j row p hi hj => ?_))
        · obtain ⟨x, hx, hr⟩ := hcell i j row p hi hj
          have hpos : cp ≠ 0 := by have := get_lt hi; omega
          rw [h4 hpos]
          simp [M'', hx]
        · obtain ⟨x, hx, hr⟩ := hcell i j row p hi hj
          simp [hx, hr]
end Go.Ab
/-
  What an operation asks is enough.
-/
namespace Go.Ab
variable {Pr : Program} {M M' : Mem} {env : List Blk} {H : Heap} {w w' : World} {g : G}

def DoesV (Pr : Program) (g : G) (M : Mem) (env : List Blk) (w : World) (r : Result Next) (Kv : D → Heap → Prop) (Kc : FuncId → List D → Prop) : Prop :=
  (∃ d H', Kv d H' ∧ OpOK Pr g M env w r (.val d H')) ∨ (∃ f ds, Kc f ds ∧ OpOK Pr g M env w r (.call f ds))

theorem sat_does {r : Result Next} {Kv : D → Heap → Prop} {Kc : FuncId → List D → Prop} : ∀ {o : OV}, OpOK Pr g M env w r o → o.sat Kv Kc → DoesV Pr g M env w r Kv Kc
  | .val d H, h, hs => .inl ⟨d, H, hs, h⟩
  | .call f ds, h, hs => .inr ⟨f, ds, hs, h⟩
  | .pre p o, h, hs => sat_does (o := o) (h hs.1) hs.2
  | .bad, _, hs => hs.elim

def Frozen (H : Heap) (Kv : D → Heap → Prop) (o : OV) : Prop :=
  ∃ k ps cap, o.sat (fun d H' => d = .own H.length k 0 ps.length cap ∧ H' = H ++ [.rows (ps.map (·.map D.p))]) (fun _ _ => False) ∧ (∀ r ∈ ps, r.length = k) ∧ Kv (.p (.lst ps)) H

theorem frozen_does {r : Result Next} {Kv : D → Heap → Prop} {Kc : FuncId → List D → Prop} (h : StH g H M env w) {o : OV} (ho : OpOK Pr g M env w r o) (hs : Frozen H Kv o) : DoesV Pr g M env w r Kv Kc := by
  obtain ⟨k, ps, cap, hs, hk, hK⟩ := hs
  rcases sat_does ho hs with ⟨d, H', ⟨rfl, rfl⟩, v, w', M', env', hr, he, hst, hv⟩ | ⟨_, _, hf, _⟩
  · obtain ⟨M'', h1, h2, h3⟩ := h.freeze he hst hk hv
    exact .inl ⟨_, _, hK, v, w', M'', env, hr, h1, h2, h3⟩
  · exact hf.elim

section
variable {Kv : D → Heap → Prop} {Kc : FuncId → List D → Prop}

/-- Enough, or enough with a slice that is never written again. -/
abbrev Good (H : Heap) (Kv : D → Heap → Prop) (Kc : FuncId → List D → Prop) (o : OV) : Prop := o.sat Kv Kc ∨ Frozen H Kv o

theorem good_withTI {x : Option TI} {F : TI → Prop} {G : TI → OV} (h : withP x F) (hg : ∀ ti, F ti → Good H Kv Kc (G ti)) : Good H Kv Kc (withTI x G) := by
  cases x with
  | none => exact h.elim
  | some ti => exact hg ti h

theorem good_slice {k : Nat} {rows : List (List D)} {len : Nat} {cap : Option Nat} (h : NewSlice H k rows len cap Kv) : Good H Kv Kc (.val (.own H.length k 0 len cap) (H ++ [.rows rows])) := by
  rcases h with h | ⟨ps, rfl, rfl, hk, hK⟩
  · exact .inl (h _ rfl)
  · exact .inr ⟨k, ps, cap, ⟨rfl, rfl⟩, hk, hK⟩
theorem good_pre {p : Prop} {o : OV} (hp : p) (h : Good H Kv Kc o) : Good H Kv Kc (.pre p o) := by
  rcases h with h | ⟨k, ps, cap, h1, h2, h3⟩
  · exact .inl ⟨hp, h⟩
  · exact .inr ⟨k, ps, cap, ⟨hp, h1⟩, h2, h3⟩

theorem good_load {ti : TI} {d : D} (h : opLoadP Kv Kc ti d H) : Good H Kv Kc (opLoad ti d H) := by
  unfold opLoadP at h
  split at h
  · obtain ⟨rs, h1, row, h2, h3⟩ := h
    simp only [opLoad, h1, h2]; exact .inl h3
  · obtain ⟨row, rfl, h3⟩ := h
    exact .inl h3
  · exact h.elim
theorem good_store {ti : TI} {d x : D} (h : opStoreP Kv Kc ti d x H) : Good H Kv Kc (opStore ti d x H) := by
  unfold opStoreP at h
  split at h
  · obtain ⟨rs, h1, row, h2, h3⟩ := h
    simp only [opStore, h1, h2]
    unfold storeCs at h3
    cases hc : cellsOf x with
    | none => rw [hc] at h3; exact h3.elim
    | some cs => rw [hc] at h3; exact .inl h3
  · exact h.elim
theorem good_new {cs : Option (List D)} (h : opNewP Kv cs H) : Good H Kv Kc (opNew cs H) := by
  unfold opNewP at h
  split at h
  · exact .inl (h _ rfl)
  · exact h.elim
theorem good_pick {c a b : D} (h : opPickP Kv c a b H) : Good H Kv Kc (opPick c a b H) := by
  unfold opPickP at h
  split at h
  · rename_i t
    cases t with
    | true => exact .inl (h.1 rfl)
    | false => exact .inl (h.2 rfl)
  · exact h.elim
theorem rowsP_elim {x : D} {F : List (List D) → Prop} (h : rowsP x H F) : ∃ rs, rowsD x H = some rs ∧ F rs := by
  unfold rowsP at h
  split at h
  · exact ⟨_, rfl, h⟩
  · exact ⟨_, rfl, h⟩
  · obtain ⟨rs, h1, h2⟩ := h
    exact ⟨_, by simp [rowsD, h1], h2⟩
  · exact h.elim
theorem good_convert {same : Bool} {src dst : TI} {dk sk : Option TK} {x : D} (h : opConvertP Kv same src dst dk sk x H) : Good H Kv Kc (opConvert same src dst dk sk x H) := by
  unfold opConvertP at h
  split at h
  · rename_i h1; simp only [opConvert, h1]; exact .inl h
  · rename_i h1; simp only [opConvert, h1]; exact .inl h
  · rename_i h1
    simp only [opConvert, h1]
    split at h
    · exact good_slice h
    · exact h.elim
  · rename_i h1 h2 _
    simp only [opConvert, h1, h2]
    split at h
    · obtain ⟨rs, h3, l, h4, h5, h6⟩ := rowsP_elim h
      simp only [h3, h4]
      exact .inl ⟨h5, h6⟩
    · exact h.elim
  · rename_i h1 h2
    simp only [opConvert, h1, h2]
    split at h
    · cases hb : Nat.blt 0 _ with
      | false => rw [hb] at h; exact h.elim
      | true =>
        rw [hb] at h
        obtain ⟨rs, h3, h4⟩ := h
        simp only [h3]
        exact .inl h4
    · exact h.elim
  · exact h.elim
theorem good_buildSlice {ei : TI} {len : Nat} {is : List Nat} {ds : List D} (h : opBuildSliceP Kv ei len is ds H) : Good H Kv Kc (opBuildSlice ei len is ds H) := by
  unfold opBuildSliceP at h
  unfold opBuildSlice
  split at h
  · exact h.elim
  · rename_i zc hz
    simp only [hz]
    cases hb : (Nat.ble (len * ei.size) 16777216 && zc.length == ei.size && Nat.ble 1 ei.size) with
    | false => rw [hb] at h; exact h.elim
    | true =>
      rw [hb] at h
      simp only [cond_true] at h ⊢
      unfold newRows at h
      split at h
      · rename_i rows hr; simp only [hr]; exact good_slice h
      · exact h.elim
theorem good_makeSlice {ei : TI} {len cap : D} (h : opMakeSliceP Kv ei len cap H) : Good H Kv Kc (opMakeSlice ei len cap H) := by
  unfold opMakeSliceP at h
  split at h
  · rename_i k1 n k2 c
    unfold opMakeSlice
    split at h
    · exact h.elim
    · rename_i zc hz
      simp only [hz]
      cases hb : (zc.length == ei.size && Nat.ble 1 ei.size) with
      | false => rw [hb] at h; exact h.elim
      | true =>
        rw [hb] at h
        simp only [cond_true] at h ⊢
        obtain ⟨hp, h | ⟨hnc, pc, rfl, hK⟩⟩ := h
        · exact .inl ⟨hp, h _ rfl⟩
        · refine good_pre hp (.inr ⟨ei.size, List.replicate c.toNat pc, some c.toNat, ⟨by simp [hnc], by simp⟩, ?_, hK⟩)
          intro r hr
          simp at hb
          rw [List.eq_of_mem_replicate hr]
          exact hb.1
  · exact h.elim
theorem good_appendTo {ei : TI} {s : D} {xs : List (List D)} (h : opAppendToP Kv ei s H xs) : Good H Kv Kc (opAppendTo ei s xs H) := by
  unfold opAppendToP at h
  unfold opAppendTo
  cases he : elemOK ei with
  | false => rw [he] at h; exact h.elim
  | true =>
    rw [he] at h
    simp only [cond_true] at h ⊢
    split at h
    · exact good_pre h.1 (good_slice h.2)
    · rename_i id k start len cap
      obtain ⟨rs, h1, h2⟩ := h
      simp only [h1]
      cases hk : (k == ei.size) with
      | false => rw [hk] at h2; exact h2.elim
      | true =>
        rw [hk] at h2
        simp only [cond_true] at h2 ⊢
        refine .inl ⟨h2.1, ?_⟩
        have h3 := h2.2
        unfold AppTo at h3
        cases cap with
        | none => exact h3 _ rfl
        | some c =>
          simp only []
          by_cases hc : len + xs.length ≤ c
          · rw [if_pos hc]; exact h3.1 hc
          · rw [if_neg hc]; exact h3.2 (Nat.lt_of_not_le hc) _ rfl
    · exact h.elim
theorem good_len {tk : TK} {x : D} (h : opLenP Kv Kc tk x H) : Good H Kv Kc (opLen tk x H) := by
  unfold opLenP at h
  split at h
  · obtain ⟨es, bs, ck, h1, h2⟩ := h
    simp only [opLen, h1]; exact .inl h2
  · obtain ⟨n, h1, h2⟩ := h
    simp only [opLen, h1]; exact .inl h2
  · exact .inl h
theorem good_lookup {kk : TK} {z : P} {m k : D} {ok : Bool} (h : opLookupP Kv Kc kk z m k ok H) : Good H Kv Kc (opLookup kk z m k ok H) := by
  unfold opLookupP at h
  split at h
  · obtain ⟨es, bs, ck, h1, h2, h3⟩ := h
    simp only [opLookup, h1]
    refine .inl ⟨h2, ?_⟩
    rename_i k'
    cases hl : lookE es k' with
    | none => exact h3.2 hl
    | some d => exact h3.1 d hl
  · exact h.elim
theorem good_mapUpdate {kk : TK} {m k x : D} (h : opMapUpdateP Kv kk m k x H) : Good H Kv Kc (opMapUpdate kk m k x H) := by
  unfold opMapUpdateP at h
  split at h
  · obtain ⟨es, bs, ck, h1, h2, h3⟩ := h
    simp only [opMapUpdate, h1]; exact .inl ⟨h2, h3⟩
  · exact h.elim
theorem good_delete {kk : TK} {m k : D} (h : opDeleteP Kv kk m k H) : Good H Kv Kc (opDelete kk m k H) := by
  unfold opDeleteP at h
  split at h
  · obtain ⟨es, bs, ck, h1, h2, h3⟩ := h
    simp only [opDelete, h1]; exact .inl ⟨h2, h3⟩
  · exact h.elim
theorem appendedP_elim {tk : TK} {x : D} {F : List (List D) → Prop} (h : appendedP tk x H F) : ∃ xs, appended tk x H = some xs ∧ F xs := by
  unfold appendedP at h
  split at h
  · exact ⟨_, rfl, h⟩
  · simp only [appended]; exact rowsP_elim h
  · exact h.elim
theorem good_copy {ei : TI} {s : D} {xs : List (List D)} (h : opCopyP Kv ei s H xs) : Good H Kv Kc (opCopy ei s xs H) := by
  unfold opCopyP at h
  split at h
  · obtain ⟨rs, h1, h2⟩ := h
    simp only [opCopy, h1]
    cases hb : (_ == ei.size) with
    | false => rw [hb] at h2; exact h2.elim
    | true =>
      rw [hb] at h2
      exact good_pre h2.1 (.inl h2.2)
  · exact h.elim
theorem good_builtin {b : Builtin} {ts : List TypeId} {ds : List D} (h : opBuiltinP Kv Kc Pr b ts ds H) : Good H Kv Kc (opBuiltin Pr b ts ds H) := by
  unfold opBuiltinP at h
  split at h
  · split at h
    · exact good_withTI h (fun ti h => good_len h)
    · exact h.elim
  · split at h
    · refine good_withTI h (fun ti h => good_withTI h (fun ei h => good_withTI h (fun ui h => ?_)))
      obtain ⟨xs, h1, h2, h3⟩ := appendedP_elim h
      simp only [h1]
      exact good_pre h2 (good_appendTo h3)
    · exact h.elim
  · split at h
    · refine good_withTI h (fun ti h => good_withTI h (fun ei h => good_withTI h (fun ui h => ?_)))
      obtain ⟨xs, h1, h2, h3⟩ := appendedP_elim h
      simp only [h1]
      cases hns : notStr ui.tk with
      | false => rw [hns] at h3; exact h3.elim
      | true => rw [hns] at h3; exact good_pre h2 (good_copy h3)
    · exact h.elim
  · split at h
    · refine good_withTI h (fun ti h => ?_)
      cases hk : keyTK Pr ti.tk with
      | none => rw [hk] at h; exact h.elim
      | some kk => rw [hk] at h; exact good_delete h
    · exact h.elim
  · exact .inl h

theorem opvP_good {op : Op} {ds : List D} (h : opvP Kv Kc Pr op ds H) : Good H Kv Kc (opv Pr op ds H) := by
  unfold opvP at h
  split at h
  · split at h
    · exact good_pick h
    · exact h.elim
  · exact good_withTI h (fun ti h => good_new h)
  · split at h
    · exact good_new h
    · exact h.elim
  · exact good_withTI h (fun ti h => good_withTI h (fun ei h => good_buildSlice h))
  · split at h
    · exact good_withTI h (fun ti h => good_load h)
    · exact h.elim
  · split at h
    · exact good_withTI h (fun ti h => good_store h)
    · exact h.elim
  · split at h
    · exact good_withTI h (fun si h => good_withTI h (fun di h => good_convert h))
    · exact h.elim
  · exact .inl (h _ rfl)
  · split at h
    · exact good_withTI h (fun ti h => good_withTI h (fun ei h => good_makeSlice h))
    · exact h.elim
  · split at h
    · refine good_withTI h (fun ti h => ?_)
      split at h
      · rename_i htk
        simp only [htk]
        exact good_withTI h (fun ki h => good_withTI h (fun ei h => good_lookup h))
      · exact h.elim
    · exact h.elim
  · split at h
    · refine good_withTI h (fun ti h => ?_)
      cases hk : keyTK Pr ti.tk with
      | none => rw [hk] at h; exact h.elim
      | some kk => rw [hk] at h; simp only [hk]; exact good_mapUpdate h
    · exact h.elim
  · split at h
    · rename_i hc; simp only [opv, hc]; exact good_builtin h
    · rename_i hc; simp only [opv, hc]; exact .inl h
    · exact h.elim
  · exact .inl h
end

/-- **What an operation asks is enough.** -/
theorem opvP_ok {Kv : D → Heap → Prop} {Kc : FuncId → List D → Prop} (h : StH g H M env w) {o : Oper} {ρ : Operand → Value} {ds : List D} (hd : RdL M env ds (o.op.operands.toList.map ρ))
    (hp : opvP Kv Kc Pr o.op ds H) : DoesV Pr g M env w ((execOp ρ o).run Pr w) Kv Kc := by
  have ho := opv_ok (Pr := Pr) (o := o) (ρ := ρ) h hd
  rcases opvP_good hp with hs | hs
  · exact sat_does ho hs
  · exact frozen_does h ho hs
end Go.Ab
/-
  Ranging over a map.
-/
namespace Go.Ab
variable {Pr : Program} {M M' : Mem} {env : List Blk} {H : Heap} {w w' : World} {g : G}

def NeedIter (H : Heap) (id : Nat) (F : Nat → Nat → List Nat → Nat → Prop) : Prop := ∃ mid since seen last, nth H id = some (.iter mid since seen last) ∧ F mid since seen last
/-- One round: none is left; or one that was not told yet. -/
def RoundP (es : List (P × D)) (bs seen : List Nat) (over : Prop) (F : Nat → P → D → Prop) : Prop :=
  ((∀ b ∈ bs, b ∈ seen) → over) ∧ (∀ (i : Nat) (k : P) (d : D) (b : Nat), es[i]? = some (k, d) → bs[i]? = some b → b ∉ seen → F b k d)
def EntryP (es : List (P × D)) (bs seen : List Nat) (F : P → D → Prop) : Prop :=
  ∃ (i : Nat) (k : P) (d : D) (b : Nat), seen.getLast? = some b ∧ bs[i]? = some b ∧ es[i]? = some (k, d) ∧ bs.Nodup ∧ F k d

section
variable (Kv : D → Heap → Prop)
def rangeP (ti : TI) (d : D) (H : Heap) : Prop :=
  match ti.tk, d with
  | .map _ _, .mp id => NeedMap H id fun _ _ ck => NewP H (.iter id ck [] ck) fun it H' => Kv (.ptr it 0 0) H'
  | _, _ => False
def nextP (isStr : Bool) (d : D) (H : Heap) : Prop :=
  match isStr, d with
  | false, .ptr it 0 0 => NeedIter H it fun mid since seen last => NeedMap H mid fun es bs ck => PreP ((∀ b ∈ bs, b < since) ∧ since ≤ last)
      (RoundP es bs seen (Kv (.tup [boolD false]) H) fun b k d => Kv (.tup [boolD true, .p k, d]) (setN H it (.iter mid since (seen ++ [b]) ck)))
  | _, _ => False
def entryP (d : D) (H : Heap) : Prop :=
  match d with
  | .ptr it 0 0 => NeedIter H it fun mid _ seen last => NeedMap H mid fun es bs ck => PreP (ck = last) (EntryP es bs seen fun k d => Kv (.tup [.p k, d]) H)
  | _ => False
end

/-- What an operation comes to. -/
def DoesOne (Pr : Program) (g : G) (M : Mem) (env : List Blk) (w : World) (r : Result Next) (Kv : D → Heap → Prop) : Prop := ∃ d H', Kv d H' ∧ OpOK Pr g M env w r (.val d H')

variable {Kv : D → Heap → Prop}

theorem range_ok {t : TypeId} {ti : TI} (ht : tyOf Pr t = some ti) (h : StH g H M env w) {d : D} {v : Value} (hd : RdD M env d v) (hp : rangeP Kv ti d H) : DoesOne Pr g M env w ((asVal (Instr.range t v)).run Pr w) Kv := by
  obtain ⟨inf, td, z, hinf, hu, hz, rfl⟩ := tyOf_spec ht
  unfold rangeP at hp
  split at hp
  · rename_i k e id htk
    obtain rfl := tk_map htk
    obtain ⟨es, bs, ck, hH, hK⟩ := hp
    rw [nth_eq] at hH
    cases hd with
    | mp hen hb =>
      rename_i blk b
      obtain ⟨ents, clock, h1, h2, h3, rfl, hbs⟩ := map_obj (Pr := Pr) h.sim hen hH hb
      have hlt := h.sim.lt id blk b hen hb
      refine ⟨_, _, hK _ rfl, OpOK.move (v := .pointer (some ⟨w.heap.size, 0, none⟩)) (w' := w.alloc (.mapIter (some b) clock #[] clock)) (env' := env ++ [⟨some w.heap.size, 0, 0, 0⟩]) ?_ (Ext.push _ _ _) ?_ ?_⟩
      · simp [Instr.range, run_underlying hu, h3]
      · exact h.push (ob := .mapIter (some b) clock #[] clock) rfl rfl ⟨w.heap.size, rfl, rfl, blk, b, prefix_get (List.prefix_append _ _) hen, hb, heap_alloc_new⟩
      · exact RdD.ptr (blk := ⟨some w.heap.size, 0, 0, 0⟩) (by rw [← h.sim.len]; simp) rfl
  · exact hp.elim

theorem iter_obj {it mid since last : Nat} {seen : List Nat} {blk : Blk} {b : Nat} (h : SimH M env H w) (he : env[it]? = some blk) (ho : H[it]? = some (.iter mid since seen last)) (hb : blk.b = some b) :
    ∃ bm mb, env[mid]? = some bm ∧ bm.b = some mb ∧ w.heap[b]? = some (.mapIter (some mb) since seen.toArray last) ∧ (getObj b).run Pr w = .ok (.mapIter (some mb) since seen.toArray last) w ∧ blk.o = 0 := by
  obtain ⟨b', hb', hz, bm, mb, h1, h2, h3⟩ := h.obj it blk _ he ho
  rw [hb] at hb'; simp at hb'; subst hb'
  exact ⟨bm, mb, h1, h2, h3, by simp [getObj, Sem.run, h3], hz⟩

theorem entry_ok (h : StH g H M env w) {d : D} {v : Value} (hd : RdD M env d v) (hp : entryP Kv d H) : DoesOne Pr g M env w ((asVal (Instr.entry v)).run Pr w) Kv := by
  unfold entryP at hp
  split at hp
  · rename_i it
    obtain ⟨mid, since, seen, last, hI, es, bs, ck, hH, rfl, i, k, d, b, e1, e2, e3, e4, hK⟩ := hp
    rw [nth_eq] at hI hH
    cases hd with
    | ptr hen hb =>
      rename_i blk r
      obtain ⟨bm, mb, q1, q2, q3, q4, q5⟩ := iter_obj (Pr := Pr) h.sim hen hI hb
      obtain ⟨ents, clock, h1, h2, h3, rfl, hbs⟩ := map_obj (Pr := Pr) h.sim q1 hH q2
      obtain ⟨m, hm⟩ : ∃ m, ents.toList[i]? = some m := ⟨_, List.getElem?_eq_getElem (by rw [← h2.1]; exact get_lt e3)⟩
      have hmb : m.born = b := by
        rw [hbs, List.getElem?_map, hm] at e2; simpa using e2
      have hr := h2.2 i k d m e3 hm
      refine ⟨_, _, hK, OpOK.same (v := .tuple #[m.key, m.val]) h ?_ (.tup (by simp) (fun j c x c1 c2 => ?_))⟩
      · have hz : blk.o + 0 * blk.k + 0 = 0 := by rw [q5]; simp
        rw [hz]
        obtain ⟨s0, rfl⟩ : ∃ s0, seen = s0 ++ [b] := by
          rw [List.getLast?_eq_some_iff] at e1; exact e1
        refine run_entry_at w r mb since s0.toArray ents clock m ?_ h1 (List.mem_of_getElem? hm) (by rw [← hbs]; exact e4)
        rw [q3, hmb]; simp
      · match j with
        | 0 => simp at c1 c2; subst c1; subst c2; exact .p hr.1
        | 1 => simp at c1 c2; subst c1; subst c2; exact hr.2
        | j + 2 => simp at c1
  · exact hp.elim

theorem next_ok (t : TypeId) {isStr : Bool} (h : StH g H M env w) {d : D} {v : Value} (hd : RdD M env d v) (hp : nextP Kv isStr d H) : DoesOne Pr g M env w ((asVal (Instr.next v isStr t)).run Pr w) Kv := by
  unfold nextP at hp
  split at hp
  · rename_i it
    obtain ⟨mid, since, seen, last, hI, es, bs, ck, hH, ⟨p1, p2⟩, p3, p4⟩ := hp
    have hI' := hI
    rw [nth_eq] at hI hH
    cases hd with
    | ptr hen hb =>
      rename_i blk r
      obtain ⟨bm, mb, q1, q2, q3, q4, q5⟩ := iter_obj (Pr := Pr) h.sim hen hI hb
      obtain ⟨ents, clock, h1, h2, h3, rfl, hbs⟩ := map_obj (Pr := Pr) h.sim q1 hH q2
      have hz : blk.o + 0 * blk.k + 0 = 0 := by rw [q5]; simp
      rw [hz]
      rcases run_next_at (P := Pr) w t r mb since last seen.toArray ents clock q3 h1 (fun e he => p1 _ (by rw [hbs]; exact List.mem_map_of_mem he)) p2 with ⟨hz0, hrun⟩ | ⟨e, he, w1, hw1, hrun⟩
      · refine ⟨_, _, p3 (fun b hb' => ?_), OpOK.same (v := .tuple #[.bool false]) h hrun (.tup (by simp) (fun j c x c1 c2 => ?_))⟩
        · rw [hbs, List.mem_map] at hb'
          obtain ⟨e, he, rfl⟩ := hb'
          have := Array.eq_empty_of_size_eq_zero hz0
          unfold leftOf at this
          rw [Array.filter_eq_empty_iff] at this
          have h5 := this e (by simpa using he)
          simpa using h5
        · match j with
          | 0 => simp at c1 c2; subst c1; subst c2; exact .p .bool
          | j + 1 => simp at c1
      · have hw1h : w1.heap = w.heap := by rcases hw1 with rfl | rfl <;> rfl
        have hel : e ∈ ents.toList ∧ e.born ∉ seen := by
          unfold leftOf at he
          simp at he
          simpa using he
        obtain ⟨i, hi⟩ := List.mem_iff_getElem?.1 hel.1
        have hie : i < es.length := by rw [h2.1]; exact get_lt hi
        have hik : es[i]? = some (es[i].1, es[i].2) := List.getElem?_eq_getElem hie
        have hr := h2.2 i _ _ e hik hi
        have hst1 : StH g H M env w1 := h.same hw1h (by rcases hw1 with rfl | rfl <;> exact ⟨rfl, rfl, rfl⟩)
        refine ⟨_, _, p4 i es[i].1 es[i].2 e.born hik (by rw [hbs, List.getElem?_map, hi]; rfl) hel.2, OpOK.move (v := .tuple #[.bool true, e.key, e.val]) hrun (Ext.refl _ _) ?_ (.tup (by simp) (fun j c x c1 c2 => ?_))⟩
        · rw [setN_eq]
          have hlt : r < w1.heap.size := by rw [hw1h]; exact heap_lt q3
          refine hst1.set hen hI rfl hb (by simp [ChangeMaps.setBlock]) (fun b' hb' => ?_) ⟨r, hb, q5, bm, mb, q1, q2, ?_⟩
          · show (w1.heap.setIfInBounds r _)[b']? = _
            rw [Array.getElem?_setIfInBounds, if_neg (fun e => hb' e.symm)]
          · show (w1.heap.setIfInBounds r _)[r]? = _
            rw [Array.getElem?_setIfInBounds, if_pos rfl, if_pos hlt]
            simp
        · match j with
          | 0 => simp at c1 c2; subst c1; subst c2; exact .p .bool
          | 1 => simp at c1 c2; subst c1; subst c2; exact .p hr.1
          | 2 => simp at c1 c2; subst c1; subst c2; exact hr.2
          | j + 3 => simp at c1
  · exact hp.elim
end Go.Ab
/-
  A slice compared with nil: one that is empty may be nil, or not.
-/
namespace Go.Ab
variable {Pr : Program} {M M' : Mem} {env : List Blk} {H : Heap} {w w' : World} {g : G}

def NilP (n : Nat) (F : Bool → Prop) : Prop := ∀ e : Bool, (0 < n → e = false) → F e
def nilArg (b : BinOp) (ds : List D) : Option (D × Bool) :=
  match b, ds with
  | .eql, [x, .p .nil] => some (x, false)
  | .neq, [x, .p .nil] => some (x, true)
  | _, _ => none
def nilP (Kv : D → Heap → Prop) (ti : TI) (x : D) (neg : Bool) (H : Heap) : Prop :=
  match ti.tk with
  | .slice _ => NeedLen x fun n => NilP n fun e => Kv (boolD (bif neg then !e else e)) H
  | _ => False

theorem RdD.nil_inv {v : Value} (h : RdD M env (.p .nil) v) : v = .slice none 0 0 := by
  cases h with
  | p h => cases h with
    | nil => rfl
theorem slice_nil {x : D} {v : Value} (hx : RdD M env x v) {n : Nat} (hn : lenD x = some n) : ∃ a c, v = .slice a n c ∧ (0 < n → a.isNone = false) := by
  obtain ⟨a, c, rfl, _⟩ := slice_len hx hn
  refine ⟨a, c, rfl, fun hpos => ?_⟩
  cases hx with
  | p h => cases h with
    | nil => omega
    | lstNil => omega
    | lstE => omega
    | lst => rfl
    | v => simp [lenD] at hn
    | undef => simp [lenD] at hn
  | ownNil => omega
  | own => rfl

theorem nil_ok {Kv : D → Heap → Prop} {op : BinOp} {t : TypeId} {ti : TI} {ox oy : Operand} (ht : tyOf Pr t = some ti) (h : StH g H M env w) {x : D} {neg : Bool} {a b : Value} (hx : RdD M env x a) (hb : b = .slice none 0 0)
    (hop : op = bif neg then .neq else .eql) (hp : nilP Kv ti x neg H) : DoesOne Pr g M env w ((asVal (asBin op t ox oy a b)).run Pr w) Kv := by
  obtain ⟨inf, td, z, hinf, hu, hz, rfl⟩ := tyOf_spec ht
  unfold nilP at hp
  split at hp
  · rename_i e htk
    obtain rfl := tk_slice htk
    obtain ⟨n, hn, hK⟩ := hp
    obtain ⟨ad, c, rfl, hpos⟩ := slice_nil hx hn
    subst hb
    have hgd : (eqGuard op t ox oy (.slice ad n c) (.slice none 0 0)).run Pr w = .ok () w := by cases op <;> simp [eqGuard]
    refine ⟨_, _, hK ad.isNone hpos, ?_⟩
    cases neg with
    | true => subst hop; exact OpOK.same h (run_asBin hgd (run_neq_slice_nil_any w t e ad n c 0 0 hu)) (.p .bool)
    | false => subst hop; exact OpOK.same h (run_asBin hgd (Lib.run_eql_slice_nil w t e ad n c 0 0 hu)) (.p .bool)
  · exact hp.elim
end Go.Ab
/-
  Calls in any heap; an operation in the machine.
-/
namespace Go.Ab
variable {Pr : Program} {M M' : Mem} {env env' : List Blk} {H H' : Heap} {w w' : World} {g : G}

theorem FrameR.comp (h : FrameR g M env w) (hx : g.env0 <+: env) (h' : FrameR ⟨w, M, env⟩ M' env' w') (he : env <+: env') : FrameR g M' env' w' := by
  have hin : ∀ {b : Nat} {bl : Blk}, bl ∈ env → bl.b = some b → g.w0.heap.size ≤ b ∨ ∃ bl ∈ g.env0, bl.b = some b := by
    intro b bl hm hb
    obtain ⟨i, hi⟩ := List.mem_iff_getElem?.1 hm
    rcases Nat.lt_or_ge i g.env0.length with hl | hl
    · obtain ⟨t, rfl⟩ := hx
      rw [List.getElem?_append_left hl] at hi
      exact .inr ⟨bl, List.mem_of_getElem? hi, hb⟩
    · exact h.newb i bl b hi hl hb
  refine ⟨Nat.le_trans h.hs h'.hs, fun b hb hn => ?_, fun i bl b hi hl hb => ?_, fun b i x hx' => ?_, h.so.trans h'.so⟩
  · rw [← h.fr b hb hn]
    refine h'.fr b (Nat.lt_of_lt_of_le hb h.hs) (fun bl hm hbb => ?_)
    rcases hin hm hbb with h1 | ⟨bl', h1, h2⟩
    · omega
    · exact hn bl' h1 h2
  · rcases Nat.lt_or_ge i env.length with hle | hle
    · obtain ⟨t, rfl⟩ := he
      rw [List.getElem?_append_left hle] at hi
      exact h.newb i bl b hi hl hb
    · rcases h'.newb i bl b hi hle hb with h1 | ⟨bl', h1, h2⟩
      · exact .inl (Nat.le_trans h.hs h1)
      · exact hin h1 h2
  · rcases h'.newM b i x hx' with h1 | h1 | ⟨bl', h1, h2⟩
    · exact h.newM b i x h1
    · exact .inr (.inl (Nat.le_trans h.hs h1))
    · exact .inr (hin h1 h2)

/-- A call of a function, in a heap, comes back as R says. -/
def CallOK (Pr : Program) (c : FuncId) (ds : List D) (H : Heap) (R : D → Heap → Prop) : Prop :=
  Enters Pr c ∧ ∀ (g : G) (M : Mem) (env : List Blk) (w : World) (vs : List Value) (fr : Frame) (cs : List Frame), StH g H M env w → RdL M env ds vs →
    ∃ r H' v w' M' env', R r H' ∧ Ext M env M' env' ∧ StH g H' M' env' w' ∧ RdD M' env' r v ∧ Steps Pr (lone (Frame.enter Pr c vs.toArray .normal) (fr :: cs) w) (lone (fr.finish v) cs w')

theorem CallOK.mono {c : FuncId} {ds : List D} {R R' : D → Heap → Prop} (h : CallOK Pr c ds H R) (hR : ∀ r H', R r H' → R' r H') : CallOK Pr c ds H R' :=
  ⟨h.1, fun g M env w vs fr cs a b => let ⟨r, H', v, w', M', env', q, q'⟩ := h.2 g M env w vs fr cs a b; ⟨r, H', v, w', M', env', hR _ _ q, q'⟩⟩

theorem CallOK.of_spec {c : FuncId} {ds : List D} {R : D → Heap → Prop} (h : Spec Pr c ds H R) : CallOK Pr c ds H R := by
  refine ⟨h.1, fun g M env w vs fr cs hst hr => ?_⟩
  obtain ⟨v, w', fr', ⟨r, H', M', env', hq, hst', hrv⟩, hsteps, hfn, hleave⟩ := h.2 w M env vs (fr :: cs) hst.sim hr
  have hback : Go.step Pr (lone fr' (fr :: cs) w') = .next (lone (fr.finish v) cs w') := step_leave_returned hleave
  exact ⟨r, H', v, w', M', env', hq, hst'.ext, ⟨hst.ext.trans hst'.ext, hst'.sim, hst.frame.comp hst.ext.2 hst'.frame hst'.ext.2⟩, hrv, hsteps.trans (.one hback)⟩

theorem CallOK.of_pure {c : FuncId} {ds : List D} {Q : D → Prop} (h : Pure Pr c ds Q) : CallOK Pr c ds H (fun r H' => H' = H ∧ pureD r = true ∧ Q r) := by
  obtain ⟨hp, hen, hs⟩ := h
  refine ⟨hen, fun g M env w vs fr cs hst hr => ?_⟩
  have hsim : SimH M [] [] w := ⟨rfl, fun i blk o h => by simp at h, fun i j bi bj oi oj b h => by simp at h, hst.sim.mem, fun i blk o b j h => by simp at h, fun i blk b h => by simp at h⟩
  obtain ⟨v, w', fr', ⟨r, H', M', env', ⟨hpr, hq⟩, hst', hrv⟩, hsteps, hfn, hleave⟩ := hs w M [] vs (fr :: cs) hsim (hr.pure hp)
  have hback : Go.step Pr (lone fr' (fr :: cs) w') = .next (lone (fr.finish v) cs w') := step_leave_returned hleave
  have hold : ∀ b, b < w.heap.size → w'.heap[b]? = w.heap[b]? := fun b hb => hst'.frame.fr b hb (by simp)
  have hext : Ext M env M' env := ⟨hst'.ext.1, List.prefix_refl _⟩
  have hnewM : ∀ b i x, M' b i = some x → M b i = some x ∨ w.heap.size ≤ b := fun b i x hx => by
    rcases hst'.frame.newM b i x hx with h | h | ⟨blk, h, _⟩
    · exact .inl h
    · exact .inr h
    · simp at h
  refine ⟨r, H, v, w', M', env, ⟨rfl, hpr, hq⟩, hext, ⟨hst.ext.trans hext, ?_, ?_⟩, hrv.pure hpr, hsteps.trans (.one hback)⟩
  · have h0 := hst.sim
    refine ⟨h0.len, fun i blk o h1 h2 => (h0.obj i blk o h1 h2).mono hext (fun _ b hb => hold b (h0.lt i blk b h1 hb)), h0.dist, hst'.sim.mem, fun i blk o b j h1 h2 h3 h4 => ?_, fun i blk b h1 h2 => Nat.lt_of_lt_of_le (h0.lt i blk b h1 h2) hst'.frame.hs⟩
    cases hm' : M' b j with
    | none => rfl
    | some x =>
      rcases hnewM b j x hm' with h | h
      · rw [h0.disj i blk o b j h1 h2 h3 h4] at h; cases h
      · have := h0.lt i blk b h1 h4; omega
  · have h0 := hst.frame
    have hs0 := hst'.frame.hs
    refine ⟨Nat.le_trans h0.hs hs0, fun b h1 h2 => ?_, h0.newb, fun b i x hx => ?_, h0.so.trans hst'.frame.so⟩
    · rw [hold b (Nat.lt_of_lt_of_le h1 h0.hs)]; exact h0.fr b h1 h2
    · rcases hnewM b i x hx with h | h
      · exact h0.newM b i x h
      · exact .inr (.inl (Nat.le_trans h0.hs h))

/-- What an operation does in the machine. -/
def MachDoes (Pr : Program) (o : Oper) (ds : List D) (H : Heap) (K : D → Heap → Prop) : Prop :=
  ∀ (g : G) (M : Mem) (env : List Blk) (w : World) (a : Act) (b : Frame) (all : Array Oper) (i : Nat) (rest : List Nat) (its : List Item) (cs : List Frame), all[i]? = some o → Region.wanted o (yielded all a.tmps) = true →
    StH g H M env w → RdL M env ds (o.op.operands.toList.map a.eval) →
    ∃ d H' v w' M' env', K d H' ∧ Ext M env M' env' ∧ StH g H' M' env' w' ∧ RdD M' env' d v ∧
      Steps Pr (lone (b.at a (.inRegion all (i :: rest) :: its)) cs w) (lone (b.at (a.put o.dst v) (.inRegion all rest :: its)) cs w')

/-- An operation with what follows it. -/
def OpP (Pr : Program) (op : Op) (ds : List D) (H : Heap) (K : D → Heap → Prop) : Prop :=
  match op with
  | .range t _ => match ds with
    | [d] => withP (tyOf Pr t) fun ti => rangeP K ti d H
    | _ => False
  | .next _ b => match ds with
    | [d] => nextP K b d H
    | _ => False
  | .entry _ => match ds with
    | [d] => entryP K d H
    | _ => False
  | .binOp b t x y z => match nilArg b ds with
    | some (d, neg) => withP (tyOf Pr t) fun ti => nilP K ti d neg H
    | none => opvP K (fun c ds => CallOK Pr c ds H K) Pr (.binOp b t x y z) ds H
  | op => opvP K (fun c ds => CallOK Pr c ds H K) Pr op ds H

theorem good_mach {o : Oper} {ds : List D} {K : D → Heap → Prop} {Kc : FuncId → List D → Prop} (hp : Good H K Kc (opv Pr o.op ds H)) (hc : ∀ c ds, Kc c ds → CallOK Pr c ds H K) : MachDoes Pr o ds H K := by
  intro g M env w a b all i rest its cs ho hw hst hrd
  have hok := opv_ok (Pr := Pr) (o := o) (ρ := a.eval) hst hrd
  have hdoes : DoesV Pr g M env w ((execOp a.eval o).run Pr w) K Kc := by
    rcases hp with hs | hs
    · exact sat_does hok hs
    · exact frozen_does hst hok hs
  have hgs := stepG_op (P := Pr) (b := b) (k := its) (cs := cs) (w := w) (rest := rest) ho hw
  have hfin : ∀ v, (b.at a (.inRegion all (i :: rest) :: its)).finish v = b.at (a.put o.dst v) (.inRegion all rest :: its) := by
    intro v; rw [Frame.finish_at, ho]; rfl
  rcases hdoes with ⟨d, H', hK, v, w', M', env', hr, he, hs', hv⟩ | ⟨c, ds', hK, vs, hr, hrl⟩
  · refine ⟨d, H', v, w', M', env', hK, he, hs', hv, .one ?_⟩
    rw [← hfin]
    rcases hr with hr | ⟨hr, rfl⟩
    · exact step_lone_go (by rw [hgs]; simp [stepG.apply, hr])
    · exact step_lone_go (by rw [hgs]; simp [stepG.apply, hr])
  · obtain ⟨hen, hcall⟩ := hc c ds' hK
    obtain ⟨r, H', v, w', M', env', h1, h2, h3, h4, h5⟩ := hcall g M env w vs (b.at a (.inRegion all (i :: rest) :: its)) cs hst hrl
    refine ⟨r, H', v, w', M', env', h1, h2, h3, h4, ?_⟩
    rw [hfin] at h5
    refine .head ?_ h5
    rw [hen _ _] at hr
    exact step_lone_go (by rw [hgs]; simp [stepG.apply, hr, Frame.at])

theorem one_mach {o : Oper} {ds : List D} {K : D → Heap → Prop} (h : ∀ (g : G) (M : Mem) (env : List Blk) (w : World) (ρ : Operand → Value), StH g H M env w → RdL M env ds (o.op.operands.toList.map ρ) → DoesOne Pr g M env w ((execOp ρ o).run Pr w) K) : MachDoes Pr o ds H K := by
  intro g M env w a b all i rest its cs ho hw hst hrd
  obtain ⟨d, H', hK, v, w', M', env', hr, he, hs', hv⟩ := h g M env w a.eval hst hrd
  have hgs := stepG_op (P := Pr) (b := b) (k := its) (cs := cs) (w := w) (rest := rest) ho hw
  have hfin : ∀ v, (b.at a (.inRegion all (i :: rest) :: its)).finish v = b.at (a.put o.dst v) (.inRegion all rest :: its) := by
    intro v; rw [Frame.finish_at, ho]; rfl
  refine ⟨d, H', v, w', M', env', hK, he, hs', hv, .one ?_⟩
  rw [← hfin]
  rcases hr with hr | ⟨hr, rfl⟩
  · exact step_lone_go (by rw [hgs]; simp [stepG.apply, hr])
  · exact step_lone_go (by rw [hgs]; simp [stepG.apply, hr])

theorem OpP.mach {o : Oper} {ds : List D} {K : D → Heap → Prop} (hp : OpP Pr o.op ds H K) : MachDoes Pr o ds H K := by
  obtain ⟨dst, op, ty, pos, aft, gd⟩ := o
  simp only [] at hp
  unfold OpP at hp
  split at hp
  · split at hp
    · refine one_mach (fun g M env w ρ hst hrd => ?_)
      obtain ⟨v, e, h1⟩ := hrd.one
      simp [Op.operands] at e; subst e
      unfold withP at hp
      split at hp
      · rename_i ti ht
        exact range_ok ht hst h1 hp
      · exact hp.elim
    · exact hp.elim
  · split at hp
    · refine one_mach (fun g M env w ρ hst hrd => ?_)
      obtain ⟨v, e, h1⟩ := hrd.one
      simp [Op.operands] at e; subst e
      exact next_ok _ hst h1 hp
    · exact hp.elim
  · split at hp
    · refine one_mach (fun g M env w ρ hst hrd => ?_)
      obtain ⟨v, e, h1⟩ := hrd.one
      simp [Op.operands] at e; subst e
      exact entry_ok hst h1 hp
    · exact hp.elim
  · split at hp
    · rename_i hna
      refine one_mach (fun g M env w ρ hst hrd => ?_)
      unfold withP at hp
      split at hp
      · rename_i ti ht
        unfold nilArg at hna
        split at hna
        · simp at hna
          obtain ⟨rfl, rfl⟩ := hna
          obtain ⟨v, u, e, h1, h2⟩ := hrd.two
          simp [Op.operands] at e
          obtain ⟨rfl, rfl⟩ := e
          exact nil_ok ht hst h1 (RdD.nil_inv h2) rfl hp
        · simp at hna
          obtain ⟨rfl, rfl⟩ := hna
          obtain ⟨v, u, e, h1, h2⟩ := hrd.two
          simp [Op.operands] at e
          obtain ⟨rfl, rfl⟩ := e
          exact nil_ok ht hst h1 (RdD.nil_inv h2) rfl hp
        · cases hna
      · exact hp.elim
    · exact good_mach (opvP_good hp) (fun _ _ h => h)
  · exact good_mach (opvP_good hp) (fun _ _ h => h)

/-- The same with one value and one heap, whatever the world. -/
abbrev DetDoes (Pr : Program) (o : Oper) (ds : List D) (H : Heap) (d : D) (H' : Heap) : Prop := MachDoes Pr o ds H (fun d' H'' => d' = d ∧ H'' = H')
/-- A call that comes to one value and one heap. -/
def DetCall (Pr : Program) (c : FuncId) (ds : List D) (H : Heap) (K : D → Heap → Prop) : Prop := ∃ r H', CallOK Pr c ds H (fun r' H'' => r' = r ∧ H'' = H') ∧ K r H'
def OpD (Pr : Program) (op : Op) (ds : List D) (H : Heap) (K : D → Heap → Prop) : Prop :=
  opvP K (fun c ds => DetCall Pr c ds H K) Pr op ds H

theorem sat_det {K : D → Heap → Prop} {Kc : FuncId → List D → Prop} : ∀ {o : OV}, o.sat K Kc → (∃ d H', K d H' ∧ o.sat (fun d' H'' => d' = d ∧ H'' = H') (fun _ _ => False)) ∨ (∃ c ds, Kc c ds ∧ o.sat (fun _ _ => False) (fun c' ds' => c' = c ∧ ds' = ds))
  | .val d H, h => .inl ⟨d, H, h, rfl, rfl⟩
  | .call f ds, h => .inr ⟨f, ds, h, rfl, rfl⟩
  | .pre p o, h => by
    rcases sat_det (o := o) h.2 with ⟨d, H', h1, h2⟩ | ⟨c, ds, h1, h2⟩
    · exact .inl ⟨d, H', h1, h.1, h2⟩
    · exact .inr ⟨c, ds, h1, h.1, h2⟩
  | .bad, h => h.elim

theorem sat_mono {K K' : D → Heap → Prop} {Kc Kc' : FuncId → List D → Prop} (hK : ∀ d H, K d H → K' d H) (hKc : ∀ c ds, Kc c ds → Kc' c ds) : ∀ {o : OV}, o.sat K Kc → o.sat K' Kc'
  | .val d H, h => hK _ _ h
  | .call f ds, h => hKc _ _ h
  | .pre p o, h => ⟨h.1, sat_mono hK hKc (o := o) h.2⟩
  | .bad, h => h.elim

theorem OpD.det {o : Oper} {ds : List D} {K : D → Heap → Prop} (hp : OpD Pr o.op ds H K) : ∃ d H', K d H' ∧ DetDoes Pr o ds H d H' := by
  rcases opvP_good hp with hs | ⟨k, ps, cap, h1, h2, h3⟩
  · rcases sat_det hs with ⟨d, H', h1, h2⟩ | ⟨c, ds', ⟨r, H', h1, h2⟩, h3⟩
    · exact ⟨d, H', h1, good_mach (Kc := fun _ _ => False) (.inl h2) (fun _ _ h => h.elim)⟩
    · refine ⟨r, H', h2, good_mach (Kc := fun c' ds'' => c' = c ∧ ds'' = ds') (.inl (sat_mono (fun _ _ h => h.elim) (fun _ _ h => h) h3)) (fun c' ds'' h => ?_)⟩
      obtain ⟨rfl, rfl⟩ := h
      exact h1
  · exact ⟨_, H, h3, good_mach (Kc := fun _ _ => False) (.inr ⟨k, ps, cap, h1, h2, rfl, rfl⟩) (fun _ _ h => h.elim)⟩
end Go.Ab
/-
  Regions whose order is drawn: the orders; what is written before.
-/
namespace Go.Ab
variable {Pr : Program}

def maskOf (acc : List Nat) (l : List Edge) (s : Nat) : Nat := l.foldl (fun s e => bif Region.binds .any e then s ||| 2 ^ e.on ||| acc.getD e.on 0 else s) s
def befs : List Oper → List Nat → List Nat
  | [], acc => acc
  | o :: os, acc => befs os (acc ++ [maskOf acc o.after.toList 0])
def anc (al : List Oper) (i j : Nat) : Bool := ((befs al []).getD j 0).testBit i

def Closed (al : List Oper) (S : Nat → Bool) : Prop := ∀ j o, al[j]? = some o → S j = true → ∀ e ∈ o.after.toList, Region.binds .any e = true → S e.on = true

theorem mask_bit {acc : List Nat} {i : Nat} : ∀ {l : List Edge} {s : Nat}, (maskOf acc l s).testBit i = true → s.testBit i = true ∨ ∃ e ∈ l, Region.binds .any e = true ∧ (e.on = i ∨ (acc.getD e.on 0).testBit i = true)
  | [], s, h => .inl h
  | e :: l, s, h => by
    simp only [maskOf, List.foldl_cons] at h
    rcases mask_bit (l := l) h with h1 | ⟨e', h1, h2, h3⟩
    · cases hb : Region.binds .any e with
      | false => rw [hb] at h1; exact .inl h1
      | true =>
        rw [hb] at h1
        simp only [cond_true, Nat.testBit_or, Bool.or_eq_true, Nat.testBit_two_pow, decide_eq_true_eq] at h1
        rcases h1 with (h1 | h1) | h1
        · exact .inl h1
        · exact .inr ⟨e, List.mem_cons_self, hb, .inl h1⟩
        · exact .inr ⟨e, List.mem_cons_self, hb, .inr h1⟩
    · exact .inr ⟨e', List.mem_cons_of_mem _ h1, h2, h3⟩

theorem befs_inv {S : Nat → Bool} {i : Nat} : ∀ (os : List Oper) (acc : List Nat), (∀ j m, acc[j]? = some m → m.testBit i = true → S j = true → S i = true) →
    (∀ k o, os[k]? = some o → S (acc.length + k) = true → ∀ e ∈ o.after.toList, Region.binds .any e = true → S e.on = true) →
    ∀ j m, (befs os acc)[j]? = some m → m.testBit i = true → S j = true → S i = true
  | [], acc, h, _ => h
  | o :: os, acc, h, hc => by
    simp only [befs]
    refine befs_inv os _ (fun j m hj hm hs => ?_) (fun k o' hk hs => ?_)
    · rcases Nat.lt_trichotomy j acc.length with hlt | heq | hgt
      · rw [List.getElem?_append_left hlt] at hj; exact h j m hj hm hs
      · subst heq
        simp at hj; subst hj
        rcases mask_bit hm with h1 | ⟨e, h1, h2, h3⟩
        · simp at h1
        · have hse := hc 0 o rfl hs e h1 h2
          rcases h3 with rfl | h3
          · exact hse
          · rw [List.getD_eq_getElem?_getD] at h3
            cases ha : acc[e.on]? with
            | none => rw [ha] at h3; simp at h3
            | some m' => rw [ha] at h3; exact h _ m' ha h3 hse
      · rw [List.getElem?_eq_none (by simp; omega)] at hj; cases hj
    · refine hc (k + 1) o' (by simpa using hk) ?_
      simpa [Nat.add_comm, Nat.add_left_comm, Nat.add_assoc] using hs

theorem anc_closed {al : List Oper} {S : Nat → Bool} (hS : Closed al S) {i j : Nat} (h : anc al i j = true) (hj : S j = true) : S i = true := by
  unfold anc at h
  rw [List.getD_eq_getElem?_getD] at h
  cases hb : (befs al [])[j]? with
  | none => rw [hb] at h; simp at h
  | some m =>
    rw [hb] at h
    exact befs_inv (S := S) al [] (fun j m h => by simp at h) (fun k o hk hs => hS k o hk (by simpa using hs)) j m hb h hj

/-! ### What is read and written -/
def tmpOf : Operand → Option Nat
  | .tmp t => some t
  | _ => none
def guardTmp (al : List Oper) (o : Oper) : List Nat :=
  match o.guard with
  | none => []
  | some (j, _) => match nth al j with
    | some o' => o'.dst.toList
    | none => []
def readsO (al : List Oper) (o : Oper) : List Nat := (opnds o.op).filterMap tmpOf ++ guardTmp al o
def hits (d : Option Tmp) (l : List Nat) : Bool :=
  match d with
  | some t => l.contains t
  | none => false
def clash (al : List Oper) (x y : Oper) : Bool := hits x.dst (readsO al y) || hits y.dst (readsO al x) || hits x.dst y.dst.toList
def pairsB (al : List Oper) (F : Nat → Nat → Oper → Oper → Bool) : Bool :=
  (List.range al.length).all fun j => (List.range j).all fun i => match al[i]?, al[j]? with
    | some x, some y => F i j x y
    | _, _ => true
theorem pairsB_spec {al : List Oper} {F : Nat → Nat → Oper → Oper → Bool} (h : pairsB al F = true) {i j : Nat} {x y : Oper} (hij : i < j) (hi : al[i]? = some x) (hj : al[j]? = some y) : F i j x y = true := by
  unfold pairsB at h
  rw [List.all_eq_true] at h
  have h1 := h j (List.mem_range.2 (get_lt hj))
  rw [List.all_eq_true] at h1
  have h2 := h1 i (List.mem_range.2 hij)
  simpa [hi, hj] using h2
def fwdB (al : List Oper) : Bool := (List.range al.length).all fun j => match al[j]? with
  | some o => o.after.toList.all fun e => !(Region.binds .any e) || Nat.blt e.on j
  | none => true
def chainB (labs : List Bool) (al : List Oper) : Bool := pairsB al fun i j _ _ => !(labs.getD i false && labs.getD j false) || anc al i j
def confB (al : List Oper) : Bool := pairsB al fun i j x y => !(clash al x y) || anc al i j
def drawB (labs : List Bool) (al : List Oper) : Bool := fwdB al && (chainB labs al && confB al)

theorem hits_of {d : Option Tmp} {l : List Nat} {t : Nat} (h : d = some t) (hm : t ∈ l) : hits d l = true := by
  subst h; simpa [hits] using hm

/-! ### Orders -/
def put1 (S : Nat → Bool) (i : Nat) : Nat → Bool := fun j => S j || j == i
inductive Order (al : List Oper) : (Nat → Bool) → List Nat → Prop
  | nil {S} (h : ∀ i, i < al.length → S i = true) : Order al S []
  | cons {S i is o} (ho : al[i]? = some o) (hn : S i = false) (hr : ∀ e ∈ o.after.toList, Region.binds .any e = true → S e.on = true) (h : Order al (put1 S i) is) : Order al S (i :: is)

theorem filter_less {l : List Nat} {p q : Nat → Bool} {i : Nat} (hpq : ∀ j, q j = true → p j = true) (hi : i ∈ l) (hp : p i = true) (hq : q i = false) : (l.filter q).length < (l.filter p).length := by
  induction l with
  | nil => cases hi
  | cons x l ih =>
    have hle : (l.filter q).length ≤ (l.filter p).length := by
      clear ih hi
      induction l with
      | nil => simp
      | cons y l ih =>
        simp only [List.filter_cons]
        cases hqy : q y with
        | true => simp [hpq y hqy]; exact ih
        | false => cases p y <;> simp <;> omega
    simp only [List.filter_cons]
    by_cases hx : x = i
    · subst hx; simp [hp, hq]; omega
    · have hi' : i ∈ l := by
        rcases List.mem_cons.1 hi with h | h
        · exact absurd h.symm hx
        · exact h
      have := ih hi'
      cases hqx : q x with
      | true => simp [hpq x hqx]; exact this
      | false => cases p x <;> simp <;> omega

theorem linearise_order {ops : Array Oper} (hf : fwdB ops.toList = true) : ∀ (fuel t : Nat) (listed : Array Bool) (S : Nat → Bool), listed.size = ops.size → (∀ i, i < ops.size → listed.getD i true = S i) → (∀ i, S i = true → i < ops.size) →
    ((List.range ops.size).filter (fun i => !S i)).length ≤ fuel → Order ops.toList S (Region.linearise.go .any ops fuel t listed []) := by
  intro fuel
  induction fuel with
  | zero =>
    intro t listed S hs hl hb hlen
    simp only [Region.linearise.go, List.reverse_nil]
    refine .nil (fun i hi => ?_)
    have : (List.range ops.size).filter (fun i => !S i) = [] := List.length_eq_zero_iff.1 (by omega)
    rw [List.filter_eq_nil_iff] at this
    simpa using this i (List.mem_range.2 (by simpa using hi))
  | succ fuel ih =>
    intro t listed S hs hl hb hlen
    simp only [Region.linearise.go]
    change Order ops.toList S (match (Region.ready .any ops listed)[t % (Region.ready .any ops listed).length]? with
      | some i => Region.linearise.go .any ops fuel (t / (Region.ready .any ops listed).length) (listed.setIfInBounds i true) [i]
      | none => [].reverse)
    cases hi : (Region.ready .any ops listed)[t % (Region.ready .any ops listed).length]? with
    | none =>
      have hnil : Region.ready .any ops listed = [] := by
        cases hr : Region.ready .any ops listed with
        | nil => rfl
        | cons x xs =>
          rw [hr] at hi
          have hlt : t % (x :: xs).length < (x :: xs).length := Nat.mod_lt _ (by simp)
          simp at hi
          simp at hlt
          omega
      simp only [List.reverse_nil]
      have hall : ∀ n i, i < n → i < ops.size → S i = true := by
        intro n
        induction n with
        | zero => intro i h; omega
        | succ n ihn =>
          intro i h1 h2
          rcases Nat.lt_or_ge i n with h | h
          · exact ihn i h h2
          · have hin : i = n := by omega
            subst hin
            cases hS : S i with
            | true => rfl
            | false =>
              exfalso
              have hmem : i ∈ Region.ready .any ops listed := by
                unfold Region.ready
                rw [List.mem_filter]
                refine ⟨List.mem_range.2 h2, ?_⟩
                rw [hl i h2, hS]
                simp only [Bool.not_false, Bool.true_and]
                rw [Array.getElem?_eq_getElem h2]
                simp only [Option.map_some, Option.getD_some]
                rw [← Array.all_toList, List.all_eq_true]
                intro e he
                cases hbd : Region.binds .any e with
                | false => simp
                | true =>
                  have hlt : e.on < i := by
                    unfold fwdB at hf
                    rw [List.all_eq_true] at hf
                    have h3 := hf i (List.mem_range.2 (by simpa using h2))
                    have h4 : ops.toList[i]? = some ops[i] := by simp [h2]
                    rw [h4] at h3
                    simp only [] at h3
                    rw [List.all_eq_true] at h3
                    have h5 := h3 e he
                    simpa [hbd] using h5
                  have h6 := ihn e.on hlt (by omega)
                  have h7 := hl e.on (by omega)
                  rw [h6] at h7
                  have h8 : e.on < listed.size := by rw [hs]; omega
                  simp only [Array.getD_eq_getD_getElem?, Array.getElem?_eq_getElem h8, Option.getD_some] at h7 ⊢
                  simp [h7]
              rw [hnil] at hmem; cases hmem
      exact .nil (fun i h => hall (i + 1) i (by omega) (by simpa using h))
    | some i =>
      simp only []
      have hm := List.mem_of_getElem? hi
      rw [linearise_go_acc, List.reverse_singleton, List.singleton_append]
      unfold Region.ready at hm
      rw [List.mem_filter, List.mem_range] at hm
      obtain ⟨hlt, hrd⟩ := hm
      rw [Array.getElem?_eq_getElem hlt] at hrd
      simp only [Option.map_some, Option.getD_some, Bool.and_eq_true] at hrd
      have hS : S i = false := by
        have := hl i hlt
        rw [← this]
        simpa using hrd.1
      refine .cons (o := ops[i]) (by simp [hlt]) hS (fun e he hb' => ?_) (ih _ _ _ ?_ ?_ ?_ ?_)
      · have := hrd.2
        rw [← Array.all_toList, List.all_eq_true] at this
        have h1 := this e he
        rw [hb'] at h1
        simp only [Bool.not_true, Bool.false_or] at h1
        rcases Nat.lt_or_ge e.on ops.size with h | h
        · rw [← hl e.on h]
          have h8 : e.on < listed.size := by omega
          simp only [Array.getD_eq_getD_getElem?, Array.getElem?_eq_getElem h8, Option.getD_some] at h1 ⊢
          exact h1
        · simp [Array.getD_eq_getD_getElem?, Array.getElem?_eq_none (show listed.size ≤ e.on by omega)] at h1
      · simpa using hs
      · intro j hj
        by_cases hji : i = j
        · subst hji
          simp [put1, Array.getD_eq_getD_getElem?, hs, hlt]
        · have h1 := hl j hj
          have h8 : j < listed.size := by omega
          have hne : (j == i) = false := by simpa using (fun h => hji h.symm)
          simp only [put1, hne, Bool.or_false, ← h1]
          simp [Array.getD_eq_getD_getElem?, hji]
      · intro j hj
        simp only [put1, Bool.or_eq_true, beq_iff_eq] at hj
        rcases hj with h | rfl
        · exact hb j h
        · exact hlt
      · have hcount := filter_less (l := List.range ops.size) (p := fun j => !S j) (q := fun j => !(put1 S i j)) (i := i) (fun j h => by
          simp only [put1, Bool.not_or, Bool.and_eq_true] at h; exact h.1) (List.mem_range.2 hlt) (by simp [hS]) (by simp [put1])
        omega

theorem schedule_order {ops : Array Oper} (hm : Pr.follows .mixedOrders = true) (hf : fwdB ops.toList = true) (t : Nat) : Order ops.toList (fun _ => false) (Region.schedule (Pr.follows .mixedOrders) ops t) := by
  simp only [Region.schedule, hm, Bool.true_or, if_true, Region.linearise]
  refine linearise_order hf _ _ _ _ (by simp) (fun i hi => by simp [Array.getD_eq_getD_getElem?, hi]) (fun i h => by cases h) ?_
  exact Nat.le_trans (List.length_filter_le _ _) (by simp)
end Go.Ab
/-
  Regions whose order is drawn: one walk serves every order.
-/
namespace Go.Ab
variable {Pr : Program} {M M' : Mem} {env env' : List Blk} {H H' : Heap} {w w' : World} {g : G}

def pT (dst : Option Tmp) (d : D) (T : Tm) : Tm :=
  match dst with
  | some t => (t, d) :: T
  | none => T
def tsel (S : Nat → Bool) : Nat → List (Option Tmp × D) → Tm → Tm
  | _, [], T => T
  | i, x :: ws, T => tsel S (i + 1) ws (bif S i then pT x.1 x.2 T else T)

theorem get_pT {dst : Option Tmp} {d : D} {T : Tm} {t : Nat} : get (pT dst d T) t = if dst = some t then some d else get T t := by
  cases dst with
  | none => simp [pT]
  | some u =>
    simp only [pT, get_cons, Option.some.injEq]

theorem tsel_congr {t : Nat} {S S' : Nat → Bool} : ∀ {ws : List (Option Tmp × D)} {i : Nat} {T T' : Tm}, (∀ k x, ws[k]? = some x → x.1 = some t → S (i + k) = S' (i + k)) → get T t = get T' t → get (tsel S i ws T) t = get (tsel S' i ws T') t
  | [], _, _, _, _, h => h
  | x :: ws, i, T, T', h, hT => by
    simp only [tsel]
    refine tsel_congr (fun k y hk hy => ?_) ?_
    · have := h (k + 1) y (by simpa using hk) hy
      simpa [Nat.add_comm, Nat.add_left_comm, Nat.add_assoc] using this
    · by_cases hx : x.1 = some t
      · have := h 0 x rfl hx
        simp only [Nat.add_zero] at this
        rw [this]
        cases S' i with
        | true => simp [get_pT, hx]
        | false => exact hT
      · cases S i <;> cases S' i <;> simp [get_pT, hx, hT]

theorem tsel_none {t : Nat} {S : Nat → Bool} {ws : List (Option Tmp × D)} {i : Nat} {T : Tm} (h : ∀ k x, ws[k]? = some x → x.1 = some t → S (i + k) = false) : get (tsel S i ws T) t = get T t := by
  induction ws generalizing i T with
  | nil => rfl
  | cons x ws ih =>
    simp only [tsel]
    rw [ih (fun k y hk hy => by
      have := h (k + 1) y (by simpa using hk) hy
      simpa [Nat.add_comm, Nat.add_left_comm, Nat.add_assoc] using this)]
    by_cases hx : x.1 = some t
    · have := h 0 x rfl hx
      simp only [Nat.add_zero] at this
      rw [this]; rfl
    · cases S i <;> simp [get_pT, hx]

theorem tsel_last {t : Nat} {S : Nat → Bool} : ∀ {ws : List (Option Tmp × D)} {i : Nat} {T : Tm} {k : Nat} {d : D}, ws[k]? = some (some t, d) → S (i + k) = true → (∀ k' x, k < k' → ws[k']? = some x → x.1 = some t → S (i + k') = false) →
    get (tsel S i ws T) t = some d
  | [], _, _, _, _, h, _, _ => by simp at h
  | x :: ws, i, T, 0, d, h, hS, hl => by
    simp only [tsel]
    simp at h; subst h
    rw [tsel_none (fun k y hk hy => by
      have := hl (k + 1) y (by omega) (by simpa using hk) hy
      simpa [Nat.add_comm, Nat.add_left_comm, Nat.add_assoc] using this)]
    simp only [Nat.add_zero] at hS
    rw [hS]
    simp [pT, get_cons]
  | x :: ws, i, T, k + 1, d, h, hS, hl => by
    simp only [tsel]
    refine tsel_last (k := k) (by simpa using h) ?_ (fun k' y hk hy1 hy2 => ?_)
    · simpa [Nat.add_comm, Nat.add_left_comm, Nat.add_assoc] using hS
    · have := hl (k' + 1) y (by omega) (by simpa using hy1) hy2
      simpa [Nat.add_comm, Nat.add_left_comm, Nat.add_assoc] using this

theorem tsel_app {S : Nat → Bool} : ∀ {ws : List (Option Tmp × D)} {i : Nat} {T : Tm} {x : Option Tmp × D}, tsel S i (ws ++ [x]) T = bif S (i + ws.length) then pT x.1 x.2 (tsel S i ws T) else tsel S i ws T
  | [], i, T, x => by simp [tsel]
  | y :: ws, i, T, x => by
    simp only [List.cons_append, tsel, List.length_cons]
    rw [tsel_app]
    rw [show i + 1 + ws.length = i + (ws.length + 1) by omega]

structure En where
  o : Oper
  lab : Bool
  run : Bool
  ds : List D
  d : D
  H : Heap
  H' : Heap

def wsOf (es : List En) : List (Option Tmp × D) := es.map fun e => (e.o.dst, e.d)
def before (i : Nat) : Nat → Bool := fun j => Nat.blt j i
theorem before_lt {i j : Nat} (h : j < i) : before i j = true := by simpa [before] using h
theorem before_ge {i j : Nat} (h : i ≤ j) : before i j = false := by
  cases hb : before i j with
  | false => rfl
  | true => simp [before] at hb; omega
theorem blt_lt {i j : Nat} (h : i < j) : Nat.blt i j = true := by simpa using h
theorem blt_nlt {i j : Nat} (h : ¬ i < j) : Nat.blt i j = false := by
  cases hb : Nat.blt i j with
  | false => rfl
  | true => simp at hb; omega
theorem blt_ge {i j : Nat} (h : Nat.blt i j = false) : j ≤ i := Nat.le_of_not_lt (fun hl => by rw [blt_lt hl] at h; cases h)
/-- The heap ahead of operation i. -/
def hAt (es : List En) (Hn : Heap) (i : Nat) : Heap :=
  match es[i]? with
  | some e => e.H
  | none => Hn

structure Cert (Pr : Program) (nt : Nat) (al : List Oper) (T0 : Tm) (H0 : Heap) (es : List En) (Hn : Heap) : Prop where
  ops : ∀ (i : Nat) (e : En), es[i]? = some e → al[i]? = some e.o
  guard : ∀ (i : Nat) (e : En), es[i]? = some e → guardO al (tsel (before i) 0 (wsOf es) T0) e.o.guard = some e.run
  skip : ∀ (i : Nat) (e : En), es[i]? = some e → e.run = false → e.d = skipD ∧ e.H' = e.H
  evs : ∀ (i : Nat) (e : En), es[i]? = some e → e.run = true → evs (tsel (before i) 0 (wsOf es) T0) (opnds e.o.op) = some e.ds
  does : ∀ (i : Nat) (e : En), es[i]? = some e → e.run = true → DetDoes Pr e.o e.ds e.H e.d e.H'
  quiet : ∀ (i : Nat) (e : En), es[i]? = some e → e.lab = false → e.H' = e.H
  dst : ∀ (i : Nat) (e : En), es[i]? = some e → ∀ t, e.o.dst = some t → t < nt
  chain : ∀ (i : Nat) (e : En), es[i]? = some e → e.H' = hAt es Hn (i + 1)
  start : hAt es Hn 0 = H0
  past : ∀ (q l : Nat) (eq el : En), es[q]? = some eq → es[l]? = some el → eq.lab = false → el.lab = true → eq.run = true → l < q → anc al l q = true ∨ DetDoes Pr eq.o eq.ds el.H eq.d el.H
  ahead : ∀ (q l : Nat) (eq el : En), es[q]? = some eq → es[l]? = some el → eq.lab = false → el.lab = true → eq.run = true → q < l → anc al q l = true ∨ DetDoes Pr eq.o eq.ds el.H' eq.d el.H'

theorem ws_get {es : List En} {k : Nat} {x : Option Tmp × D} (h : (wsOf es)[k]? = some x) : ∃ e, es[k]? = some e ∧ x = (e.o.dst, e.d) := by
  unfold wsOf at h
  rw [List.getElem?_map] at h
  cases he : es[k]? with
  | none => rw [he] at h; cases h
  | some e => rw [he] at h; simp at h; exact ⟨e, rfl, h.symm⟩

theorem evs_congr {T T' : Tm} : ∀ {xs : List Operand}, (∀ t, t ∈ xs.filterMap tmpOf → get T t = get T' t) → evs T xs = evs T' xs
  | [], _ => rfl
  | x :: xs, h => by
    have hx : ev T x = ev T' x := by
      cases x with
      | tmp t => exact h t (by simp [tmpOf])
      | _ => rfl
    simp only [evs, hx]
    rw [evs_congr (fun t ht => h t (by
      rw [List.mem_filterMap] at ht ⊢
      obtain ⟨y, hy, hyt⟩ := ht
      exact ⟨y, List.mem_cons_of_mem _ hy, hyt⟩))]
theorem guardO_congr {al : List Oper} {T T' : Tm} {o : Oper} (h : ∀ t, t ∈ guardTmp al o → get T t = get T' t) : guardO al T o.guard = guardO al T' o.guard := by
  unfold guardTmp at h
  unfold guardO
  cases hg : o.guard with
  | none => rfl
  | some p =>
    obtain ⟨j, want⟩ := p
    rw [hg] at h
    simp only [] at h ⊢
    cases hn : nth al j with
    | none => rfl
    | some o' =>
      rw [hn] at h
      simp only [] at h ⊢
      cases hd : o'.dst with
      | none => rfl
      | some t =>
        simp only []
        rw [h t (by simp [hd])]

theorem StI.ext {nt : Nat} {T T' : Tm} {a : Act} (h : StI nt g T H M env a w) (hT : ∀ t d, get T' t = some d → get T t = some d) : StI nt g T' H M env a w :=
  ⟨h.h, fun i d hd => h.tmps i d (hT i d hd), h.size, h.defers⟩

section
variable {nt : Nat} {al : List Oper} {T0 : Tm} {H0 Hn : Heap} {es : List En} {labs : List Bool}

theorem Cert.flat (hc : Cert Pr nt al T0 H0 es Hn) {i : Nat} : ∀ {j : Nat}, i ≤ j → (∀ (k : Nat) (e : En), i ≤ k → k < j → es[k]? = some e → e.lab = false) → j ≤ es.length → hAt es Hn i = hAt es Hn j := by
  intro j hij
  induction hij with
  | refl => intro _ _; rfl
  | step hle ih =>
    rename_i m
    intro h hj
    rw [ih (fun k e h1 h2 => h k e h1 (by omega)) (by omega)]
    have hm : es[m]? = some es[m] := List.getElem?_eq_getElem (by omega)
    have h1 := hc.chain m _ hm
    have h2 := hc.quiet m _ hm (h m _ hle (by simp only [Nat.succ_eq_add_one]; omega) hm)
    rw [← h1, h2]
    simp [hAt, hm]

theorem guardO_pre {T : Tm} {a : Act} (h : StI nt g T H M env a w) {all : Array Oper} (ha : ∀ (j : Nat) (o : Oper), al[j]? = some o → all[j]? = some o) {o : Oper} {r : Bool} (hg : guardO al T o.guard = some r) :
    Region.wanted o (yielded all a.tmps) = r := by
  unfold guardO at hg
  unfold Region.wanted
  split at hg
  · simp at hg; subst hg; simp [*]
  · rename_i j want hgu
    rw [hgu]
    simp only []
    split at hg
    · rename_i o' ho'
      rw [nth_eq] at ho'
      have h1 := ha _ _ ho'
      split at hg
      · rename_i t ht
        unfold guardD at hg
        split at hg
        · rename_i b hget
          obtain ⟨v, hv, hr⟩ := h.tmps t _ hget
          rw [bool_inv hr] at hv
          simp [guardB] at hg
          simp [yielded, h1, ht, hv, ← hg]
        · rename_i cs hget
          obtain ⟨v, hv, hr⟩ := h.tmps t _ hget
          cases hr with
          | tup _ _ =>
            simp at hg
            simp [yielded, h1, ht, hv, ← hg]
        · cases hg
      · cases hg
    · cases hg
/-- The next loud one. -/
theorem next_loud (es : List En) (i : Nat) (hi : i ≤ es.length) : ∃ c, i ≤ c ∧ c ≤ es.length ∧ (∀ e : En, es[c]? = some e → e.lab = true) ∧ ∀ (k : Nat) (e : En), i ≤ k → k < c → es[k]? = some e → e.lab = false := by
  obtain ⟨n, hn⟩ : ∃ n, n = es.length - i := ⟨_, rfl⟩
  induction n generalizing i with
  | zero => exact ⟨i, Nat.le_refl _, hi, fun e he => absurd (get_lt he) (by omega), fun k e h1 h2 => by omega⟩
  | succ n ih =>
    have hlt : i < es.length := by omega
    cases hl : es[i].lab with
    | true => exact ⟨i, Nat.le_refl _, hi, fun e he => by rw [List.getElem?_eq_getElem hlt] at he; simp at he; rw [← he]; exact hl, fun k e h1 h2 => by omega⟩
    | false =>
      obtain ⟨c, h1, h2, h3, h4⟩ := ih (i + 1) (by omega) (by omega)
      refine ⟨c, by omega, h2, h3, fun k e hk1 hk2 he => ?_⟩
      rcases Nat.lt_or_ge i k with h | h
      · exact h4 k e h hk2 he
      · have : k = i := by omega
        subst this
        rw [List.getElem?_eq_getElem hlt] at he; simp at he; rw [← he]; exact hl

/-- The last loud one. -/
theorem last_loud (es : List En) (i : Nat) : ∀ c, i ≤ c → c ≤ es.length → (∀ (k : Nat) (e : En), i ≤ k → k < c → es[k]? = some e → e.lab = false) ∨
    ∃ l e, i ≤ l ∧ l < c ∧ es[l]? = some e ∧ e.lab = true ∧ ∀ (k : Nat) (e : En), l < k → k < c → es[k]? = some e → e.lab = false := by
  intro c hic
  induction hic with
  | refl => intro _; exact .inl (fun k e h1 h2 => by omega)
  | step hle ih =>
    rename_i m
    intro hm
    have hlt : m < es.length := by simp only [Nat.succ_eq_add_one] at hm; omega
    have hget : es[m]? = some es[m] := List.getElem?_eq_getElem hlt
    cases hl : es[m].lab with
    | true => exact .inr ⟨m, _, hle, Nat.lt_succ_self m, hget, hl, fun k e h1 h2 => by simp only [Nat.succ_eq_add_one] at h2; omega⟩
    | false =>
      rcases ih (by omega) with h | ⟨l, e, h1, h2, h3, h4, h5⟩
      · refine .inl (fun k e h1 h2 he => ?_)
        rcases Nat.lt_or_ge k m with h3 | h3
        · exact h k e h1 h3 he
        · have : k = m := by simp only [Nat.succ_eq_add_one] at h2; omega
          subst this; rw [hget] at he; simp at he; rw [← he]; exact hl
      · refine .inr ⟨l, e, h1, Nat.lt_succ_of_lt h2, h3, h4, fun k e' hk1 hk2 he => ?_⟩
        rcases Nat.lt_or_ge k m with h6 | h6
        · exact h5 k e' hk1 h6 he
        · have : k = m := by simp only [Nat.succ_eq_add_one] at hk2; omega
          subst this; rw [hget] at he; simp at he; rw [← he]; exact hl

theorem drawn_go (hc : Cert Pr nt al T0 H0 es Hn) (hlen : es.length = al.length) (hlab : ∀ (i : Nat) (e : En), es[i]? = some e → labs.getD i false = e.lab) (hB : drawB labs al = true) {all : Array Oper} (hall : ∀ (j : Nat) (o : Oper), al[j]? = some o → all[j]? = some o) (ord2 : List Nat) {b : Frame} {its : List Item} {cs : List Frame} :
    ∀ (ord : List Nat) (S : Nat → Bool) (c : Nat) (M : Mem) (env : List Blk) (a : Act) (w : World), Order al S ord → Closed al S → (∀ i, S i = true → i < al.length) →
      c ≤ es.length → (∀ e : En, es[c]? = some e → e.lab = true) → (∀ (l : Nat) (el : En), es[l]? = some el → el.lab = true → S l = Nat.blt l c) →
      StI nt g (tsel S 0 (wsOf es) T0) (hAt es Hn c) M env a w →
      ∃ M' env' a' w', StI nt g (tsel (before es.length) 0 (wsOf es) T0) Hn M' env' a' w' ∧ Steps Pr (lone (b.at a (.inRegion all (ord ++ ord2) :: its)) cs w) (lone (b.at a' (.inRegion all ord2 :: its)) cs w') := by
  simp only [drawB, Bool.and_eq_true] at hB
  obtain ⟨_, hchain, hconf⟩ := hB
  intro ord
  induction ord with
  | nil =>
    intro S c M env a w hord hcl hSb hcn hcl' hS hst
    cases hord with
    | nil hdone =>
      have hc' : c = es.length := by
        rcases Nat.lt_or_ge c es.length with h | h
        · have hg : es[c]? = some es[c] := List.getElem?_eq_getElem h
          have h1 := hS c _ hg (hcl' _ hg)
          rw [hdone c (by omega)] at h1
          simp at h1
        · omega
      refine ⟨M, env, a, w, ?_, .refl _ _⟩
      have hH : hAt es Hn c = Hn := by simp [hAt, hc']
      rw [hH] at hst
      refine hst.ext (fun t d hd => ?_)
      rw [← hd]
      refine tsel_congr (fun k x hk hx => ?_) rfl
      have hk' : k < es.length := by have := get_lt hk; simpa [wsOf] using this
      simp [before, hk', hdone k (by omega)]
  | cons i ord ih =>
    intro S c M env a w hord hcl hSb hcn hcl' hS hst
    cases hord with
    | cons ho hn hr hord =>
    rename_i o
    have hil : i < es.length := by rw [hlen]; exact get_lt ho
    obtain ⟨e, he⟩ : ∃ e, es[i]? = some e := ⟨_, List.getElem?_eq_getElem hil⟩
    have heo : e.o = o := by
      have h1 := hc.ops i e he
      rw [ho] at h1; simp at h1; exact h1.symm
    subst heo
    have hcl2 : Closed al (put1 S i) := by
      intro j o hj hs e' he' hb
      simp only [put1, Bool.or_eq_true, beq_iff_eq] at hs ⊢
      rcases hs with hs | rfl
      · exact .inl (hcl j o hj hs e' he' hb)
      · rw [ho] at hj; simp at hj; subst hj
        exact .inl (hr e' he' hb)
    have hSb2 : ∀ j, put1 S i j = true → j < al.length := by
      intro j hj
      simp only [put1, Bool.or_eq_true, beq_iff_eq] at hj
      rcases hj with h | rfl
      · exact hSb j h
      · omega
    -- which writers of a temporary are done
    have hrel : ∀ (k : Nat) (ek : En) (t : Nat), es[k]? = some ek → ek.o.dst = some t → (t ∈ readsO al e.o ∨ e.o.dst = some t) → k ≠ i → S k = before i k := by
      intro k ek t hk hkt ht hne
      have hko := hc.ops k ek hk
      rcases Nat.lt_or_ge k i with hlt | hge
      · have hp := pairsB_spec hconf hlt hko ho
        have hcl3 : clash al ek.o e.o = true := by
          unfold clash
          rcases ht with ht | ht
          · rw [hits_of hkt ht]; rfl
          · rw [show hits ek.o.dst e.o.dst.toList = true from hits_of hkt (by simp [ht])]; simp
        rw [hcl3] at hp
        simp at hp
        have h1 := anc_closed hcl2 hp (show put1 S i i = true by simp [put1])
        have h2 : S k = true := by
          simp only [put1, Bool.or_eq_true, beq_iff_eq] at h1
          rcases h1 with h1 | h1
          · exact h1
          · exact absurd h1 hne
        simp [h2, before, hlt]
      · have hlt : i < k := by omega
        have hp := pairsB_spec hconf hlt ho hko
        have hcl3 : clash al e.o ek.o = true := by
          unfold clash
          rcases ht with ht | ht
          · rw [show hits ek.o.dst (readsO al e.o) = true from hits_of hkt ht]; simp
          · rw [show hits e.o.dst ek.o.dst.toList = true from hits_of ht (by simp [hkt])]; simp
        rw [hcl3] at hp
        simp at hp
        cases hSk : S k with
        | false => exact (before_ge hge).symm
        | true => have := anc_closed hcl hp hSk; rw [hn] at this; cases this
    have hsame : ∀ t, t ∈ readsO al e.o → get (tsel S 0 (wsOf es) T0) t = get (tsel (before i) 0 (wsOf es) T0) t := by
      intro t ht
      refine tsel_congr (fun k x hk hx => ?_) rfl
      obtain ⟨ek, hek, rfl⟩ := ws_get hk
      rw [Nat.zero_add]
      by_cases hki : k = i
      · subst hki; rw [hn, before_ge (Nat.le_refl _)]
      · exact hrel k ek t hek hx (.inl ht) hki
    have hguard : guardO al (tsel S 0 (wsOf es) T0) e.o.guard = some e.run := by
      rw [← hc.guard i e he]
      exact guardO_congr (fun t ht => hsame t (by simp [readsO, ht]))
    have hwant := guardO_pre hst hall hguard
    -- the temporaries behind it
    have htmps : ∀ t d, get (tsel (put1 S i) 0 (wsOf es) T0) t = some d → get (pT e.o.dst e.d (tsel S 0 (wsOf es) T0)) t = some d := by
      intro t d hd
      rw [← hd, get_pT]
      by_cases hdt : e.o.dst = some t
      · rw [if_pos hdt]
        symm
        refine tsel_last (k := i) (by simp [wsOf, he, hdt]) (by simp [put1]) (fun k x hik hk hx => ?_)
        obtain ⟨ek, hek, rfl⟩ := ws_get hk
        have h1 := hrel k ek t hek hx (.inr hdt) (by omega)
        rw [Nat.zero_add]
        have hki : ¬ k = i := by omega
        simp [put1, h1, hki, before_ge (show i ≤ k by omega)]
      · rw [if_neg hdt]
        refine (tsel_congr (fun k x hk hx => ?_) rfl)
        obtain ⟨ek, hek, rfl⟩ := ws_get hk
        rw [Nat.zero_add]
        have hki : ¬ k = i := by
          intro h; subst h
          rw [he] at hek; simp at hek; subst hek
          exact hdt hx
        simp [put1, hki]
    have hloud : e.lab = true → i = c := by
      intro hl
      have h1 := hS i e he hl
      rw [hn] at h1
      have hge : c ≤ i := blt_ge h1.symm
      rcases Nat.lt_or_ge c i with hlt | h
      · have hg : es[c]? = some es[c] := List.getElem?_eq_getElem (by omega)
        have hp := pairsB_spec hchain hlt (hc.ops c _ hg) ho
        rw [hlab c _ hg, hlab i e he, hcl' _ hg, hl] at hp
        simp at hp
        have h2 := anc_closed hcl2 hp (show put1 S i i = true by simp [put1])
        have h3 := hS c _ hg (hcl' _ hg)
        have hci : ¬ c = i := by omega
        simp [put1, h3, hci] at h2
      · omega
    -- the heap behind it
    obtain ⟨c', hc'1, hc'2, hc'3, hc'4, hc'5⟩ : ∃ c', c' ≤ es.length ∧ (∀ e : En, es[c']? = some e → e.lab = true) ∧ (∀ (l : Nat) (el : En), es[l]? = some el → el.lab = true → put1 S i l = Nat.blt l c') ∧
        (e.lab = true → hAt es Hn c = e.H ∧ hAt es Hn c' = e.H') ∧ (e.lab = false → hAt es Hn c' = hAt es Hn c) := by
      cases hl : e.lab with
      | true =>
        have hic := hloud hl
        subst hic
        obtain ⟨c', h1, h2, h3, h4⟩ := next_loud es (i + 1) (by omega)
        refine ⟨c', h2, h3, fun l el hle hll => ?_, fun _ => ⟨by simp [hAt, he], ?_⟩, fun h => by cases h⟩
        · have h5 := hS l el hle hll
          simp only [put1, h5]
          rcases Nat.lt_trichotomy l i with h6 | h6 | h6
          · have : l < c' := by omega
            have h7 : ¬ l = i := by omega
            rw [blt_lt h6, blt_lt this]; rfl
          · subst h6
            have : l < c' := by omega
            rw [blt_lt this]; simp
          · have h7 : ¬ l < i := by omega
            have h8 : ¬ l = i := by omega
            rcases Nat.lt_or_ge l c' with h9 | h9
            · have := h4 l el h6 h9 hle; rw [this] at hll; cases hll
            · have h10 : ¬ l < c' := by omega
              rw [blt_nlt h7, blt_nlt h10]; simp [h8]
        · rw [hc.chain i e he]
          exact (hc.flat h1 (fun k e h5 h6 h7 => h4 k e h5 h6 h7) h2).symm
      | false =>
        refine ⟨c, hcn, hcl', fun l el hle hll => ?_, fun h => (by cases h), fun _ => rfl⟩
        have h5 := hS l el hle hll
        have h6 : ¬ l = i := by
          intro h; subst h; rw [he] at hle; simp at hle; subst hle; rw [hl] at hll; cases hll
        simp [put1, h5, h6]
    have ho' : all[i]? = some e.o := hall _ _ ho
    cases hrun : e.run with
    | false =>
      rw [hrun] at hwant
      obtain ⟨hd, hHH⟩ := hc.skip i e he hrun
      have hsk := step_op_skip (P := Pr) (b := b) (a := a) (k := its) (cs := cs) (w := w) (ops := all) (i := i) (rest := ord ++ ord2) (by simp [ho', hwant])
      simp only [ho', Option.bind_some] at hsk
      have hHc : hAt es Hn c' = hAt es Hn c := by
        cases hl : e.lab with
        | true => have := hc'4 hl; rw [this.1, this.2, hHH]
        | false => exact hc'5 hl
      have hst2 : StI nt g (tsel (put1 S i) 0 (wsOf es) T0) (hAt es Hn c') M env (a.put e.o.dst undef) w := by
        rw [hHc]
        have h1 : StI nt g (pT e.o.dst e.d (tsel S 0 (wsOf es) T0)) (hAt es Hn c) M env (a.put e.o.dst undef) w := by
          rw [hd]
          cases hds : e.o.dst with
          | none => exact hst.putNone _
          | some t => exact hst.put (hc.dst i e he t hds) RdD_skip
        exact h1.ext htmps
      obtain ⟨M', env', a', w', h1, h2⟩ := ih _ c' M env _ w hord hcl2 hSb2 hc'1 hc'2 hc'3 hst2
      exact ⟨M', env', a', w', h1, .head hsk h2⟩
    | true =>
      rw [hrun] at hwant
      have hev : evs (tsel S 0 (wsOf es) T0) (opnds e.o.op) = some e.ds := by
        rw [← hc.evs i e he hrun]
        exact evs_congr (fun t ht => hsame t (by simp only [readsO, List.mem_append]; exact .inl ht))
      have hrd := evs_rd hst hev
      rw [opnds_eq] at hrd
      have hdoes : DetDoes Pr e.o e.ds (hAt es Hn c) e.d (hAt es Hn c') := by
        cases hl : e.lab with
        | true =>
          have := hc'4 hl
          rw [this.1, this.2]
          exact hc.does i e he hrun
        | false =>
          rw [hc'5 hl]
          have hq := hc.quiet i e he hl
          rcases Nat.lt_trichotomy c i with hlt | heq | hgt
          · have hg : es[c]? = some es[c] := List.getElem?_eq_getElem (by omega)
            rcases hc.past i c e _ he hg hl (hcl' _ hg) hrun hlt with h | h
            · have h2 := anc_closed hcl2 h (show put1 S i i = true by simp [put1])
              have h3 := hS c _ hg (hcl' _ hg)
              have hci : ¬ c = i := by omega
              simp [put1, h3, hci] at h2
            · simpa [hAt, hg] using h
          · subst heq
            have := hcl' e he
            rw [hl] at this; cases this
          · rcases last_loud es (i + 1) c (by omega) hcn with h | ⟨l, el, h1, h2, h3, h4, h5⟩
            · have hf := hc.flat (i := i + 1) (j := c) (by omega) h hcn
              rw [← hf, ← hc.chain i e he, hq]
              have := hc.does i e he hrun
              rw [hq] at this; exact this
            · rcases hc.ahead i l e el he h3 hl h4 hrun (by omega) with h | h
              · have hSl := hS l el h3 h4
                have : S l = true := by rw [hSl]; simpa using h2
                have := anc_closed hcl h this
                rw [hn] at this; cases this
              · have hf := hc.flat (i := l + 1) (j := c) (by omega) (fun k e' h6 h7 h8 => h5 k e' h6 h7 h8) hcn
                rw [← hf, ← hc.chain l el h3]
                exact h
      obtain ⟨d, H', v, w', M', env', ⟨rfl, rfl⟩, hext, hst', hv, hsteps⟩ := hdoes g M env w a b all i (ord ++ ord2) its cs ho' hwant hst.h hrd
      have hst2 : StI nt g (tsel (put1 S i) 0 (wsOf es) T0) (hAt es Hn c') M' env' (a.put e.o.dst v) w' := by
        have h1 : StI nt g (pT e.o.dst e.d (tsel S 0 (wsOf es) T0)) (hAt es Hn c') M' env' (a.put e.o.dst v) w' := by
          have h0 := hst.move hext hst'
          cases hds : e.o.dst with
          | none => exact h0.putNone _
          | some t => exact h0.put (hc.dst i e he t hds) hv
        exact h1.ext htmps
      obtain ⟨M'', env'', a'', w'', h1, h2⟩ := ih _ c' M' env' _ w' hord hcl2 hSb2 hc'1 hc'2 hc'3 hst2
      exact ⟨M'', env'', a'', w'', h1, hsteps.trans h2⟩
end
end Go.Ab
/-
  Regions whose order is drawn: the walk.
-/
namespace Go.Ab
variable {Pr : Program} {M M' : Mem} {env env' : List Blk} {H H' : Heap} {w w' : World} {g : G}

def putP (nt : Nat) (dst : Option Tmp) (d : D) (T : Tm) (F : Tm → Prop) : Prop :=
  match dst with
  | some t => bif Nat.blt t nt then F ((t, d) :: T) else False
  | none => F T
/-- Is the operation to be done? What is told by the road is known from there on. -/
def guardP (al : List Oper) (T : Tm) (g : Option (Nat × Bool)) (yes no : Tm → Prop) : Prop :=
  match g with
  | none => yes T
  | some (j, want) => match nth al j with
    | some o => match o.dst with
      | some t => match get T t with
        | some (.tup _) => no T
        | some (.p (.bool b)) => Br b (bif want then yes ((t, boolD true) :: T) else no ((t, boolD true) :: T)) (bif want then no ((t, boolD false) :: T) else yes ((t, boolD false) :: T))
        | _ => False
      | none => False
    | none => False

theorem putP_elim {nt : Nat} {dst : Option Tmp} {d : D} {T : Tm} {F : Tm → Prop} (h : putP nt dst d T F) : F (pT dst d T) ∧ (∀ t, dst = some t → t < nt) ∧ putT nt dst d T = some (pT dst d T) := by
  cases dst with
  | none => exact ⟨h, fun t h => (by cases h), rfl⟩
  | some t =>
    simp only [putP] at h
    cases hb : Nat.blt t nt with
    | false => rw [hb] at h; exact h.elim
    | true =>
      rw [hb] at h
      exact ⟨h, fun u hu => by simp at hu; subst hu; simpa using hb, by simp [putT, hb, pT]⟩

theorem get_know {T : Tm} {t : Nat} {b : Bool} (h : get T t = some (.p (.bool b))) : ∀ u, get ((t, boolD b) :: T) u = get T u := by
  intro u
  rw [get_cons]
  by_cases hu : t = u
  · subst hu; simp [h, boolD]
  · simp [hu]

theorem guardP_elim {al : List Oper} {T : Tm} {gd : Option (Nat × Bool)} {yes no : Tm → Prop} (h : guardP al T gd yes no) :
    ∃ b T', guardO al T gd = some b ∧ (∀ u, get T' u = get T u) ∧ ((b = true ∧ yes T') ∨ (b = false ∧ no T')) := by
  unfold guardP at h
  split at h
  · exact ⟨true, T, rfl, fun _ => rfl, .inl ⟨rfl, h⟩⟩
  · rename_i j want
    split at h
    · rename_i o ho
      split at h
      · rename_i t ht
        split at h
        · rename_i cs hg
          exact ⟨false, T, by simp [guardO, ho, ht, hg, guardD], fun _ => rfl, .inr ⟨rfl, h⟩⟩
        · rename_i b hg
          have hgo : guardO al T (some (j, want)) = some (b == want) := by simp [guardO, ho, ht, hg, guardD, guardB]
          rw [hgo]
          cases b with
          | true =>
            have h1 := h.1 rfl
            cases want with
            | true => exact ⟨true, _, rfl, get_know hg, .inl ⟨rfl, h1⟩⟩
            | false => exact ⟨false, _, rfl, get_know hg, .inr ⟨rfl, h1⟩⟩
          | false =>
            have h1 := h.2 rfl
            cases want with
            | true => exact ⟨false, _, rfl, get_know hg, .inr ⟨rfl, h1⟩⟩
            | false => exact ⟨true, _, rfl, get_know hg, .inl ⟨rfl, h1⟩⟩
        · exact h.elim
      · exact h.elim
    · exact h.elim

def BothP (A B : Prop) : Prop := A ∧ B
def AncOr (b : Bool) (p : Prop) : Prop := b = true ∨ p
def prevOK (Pr : Program) (al : List Oper) (q : Nat) (o : Oper) (ds : List D) (d : D) : List (Nat × Heap) → Prop
  | [] => True
  | (l, Hl) :: ps => BothP (AncOr (anc al l q) (OpD Pr o.op ds Hl fun d' H'' => d' = d ∧ H'' = Hl)) (prevOK Pr al q o ds d ps)
def pendOK (Pr : Program) (al : List Oper) (l : Nat) (H' : Heap) : List (Nat × Oper × List D × D) → Prop
  | [] => True
  | (q, o, ds, d) :: ps => BothP (AncOr (anc al q l) (OpD Pr o.op ds H' fun d' H'' => d' = d ∧ H'' = H')) (pendOK Pr al l H' ps)
def doP (Pr : Program) (ods : Option (List D)) (op : Op) (H : Heap) (F : List D → D → Heap → Prop) : Prop :=
  match ods with
  | none => False
  | some ds => OpD Pr op ds H (F ds)
def drawP (Pr : Program) (nt : Nat) (al : List Oper) (K : Tm → Heap → Prop) : List Oper → List Bool → Nat → List (Nat × Heap) → List (Nat × Oper × List D × D) → Tm → Heap → Prop
  | [], _, _, _, _, T, H => K T H
  | _ :: _, [], _, _, _, _, _ => False
  | o :: os, lab :: labs, i, prev, pend, T, H => guardP al T o.guard
      (fun T => doP Pr (evs T (opnds o.op)) o.op H fun ds d H' =>
        bif lab then BothP (pendOK Pr al i H' pend) (putP nt o.dst d T (fun T' => drawP Pr nt al K os labs (i + 1) ((i, H) :: prev) pend T' H'))
        else PreP (H' = H) (BothP (prevOK Pr al i o ds d prev) (putP nt o.dst d T (fun T' => drawP Pr nt al K os labs (i + 1) prev ((i, o, ds, d) :: pend) T' H))))
      (fun T => BothP (bif lab then pendOK Pr al i H pend else True) (putP nt o.dst skipD T (fun T' => drawP Pr nt al K os labs (i + 1) (bif lab then (i, H) :: prev else prev) pend T' H)))

theorem prevOK_mem {al : List Oper} {q : Nat} {o : Oper} {ds : List D} {d : D} : ∀ {ps : List (Nat × Heap)}, prevOK Pr al q o ds d ps → ∀ l Hl, (l, Hl) ∈ ps → anc al l q = true ∨ DetDoes Pr o ds Hl d Hl
  | [], _, l, Hl, hm => by cases hm
  | (l', Hl') :: ps, h, l, Hl, hm => by
    rcases List.mem_cons.1 hm with he | hm
    · simp at he
      obtain ⟨rfl, rfl⟩ := he
      rcases h.1 with h1 | h1
      · exact .inl h1
      · obtain ⟨d', H', ⟨rfl, rfl⟩, h2⟩ := h1.det
        exact .inr h2
    · exact prevOK_mem h.2 l Hl hm
theorem pendOK_mem {al : List Oper} {l : Nat} {H' : Heap} : ∀ {ps : List (Nat × Oper × List D × D)}, pendOK Pr al l H' ps → ∀ q o ds d, (q, o, ds, d) ∈ ps → anc al q l = true ∨ DetDoes Pr o ds H' d H'
  | [], _, q, o, ds, d, hm => by cases hm
  | (q', o', ds', d') :: ps, h, q, o, ds, d, hm => by
    rcases List.mem_cons.1 hm with he | hm
    · simp at he
      obtain ⟨rfl, rfl, rfl, rfl⟩ := he
      rcases h.1 with h1 | h1
      · exact .inl h1
      · obtain ⟨d', H', ⟨rfl, rfl⟩, h2⟩ := h1.det
        exact .inr h2
    · exact pendOK_mem h.2 q o ds d hm

section
variable {nt : Nat} {al : List Oper} {T0 : Tm} {H0 Hn : Heap} {es : List En}

theorem app_get {es : List En} {x e : En} {i : Nat} (h : (es ++ [x])[i]? = some e) : (i < es.length ∧ es[i]? = some e) ∨ (i = es.length ∧ e = x) := by
  rcases append_get_new h with ⟨h1, h2⟩ | ⟨h1, h2⟩
  · exact .inl ⟨h2, h1⟩
  · exact .inr ⟨h1, h2⟩

theorem hAt_app {x : En} (hx : x.H = Hn) {H1 : Heap} {i : Nat} (hi : i ≤ es.length) : hAt (es ++ [x]) H1 i = hAt es Hn i := by
  unfold hAt
  rcases Nat.lt_or_ge i es.length with h | h
  · rw [List.getElem?_append_left h]
    rw [List.getElem?_eq_getElem h]
  · have : i = es.length := by omega
    subst this
    simp [hx]

theorem tsel_pre {x : En} {i : Nat} (hi : i ≤ es.length) : tsel (before i) 0 (wsOf (es ++ [x])) T0 = tsel (before i) 0 (wsOf es) T0 := by
  unfold wsOf
  rw [List.map_append, List.map_cons, List.map_nil, tsel_app]
  simp only [List.length_map, Nat.zero_add]
  rw [before_ge hi]; rfl
theorem tsel_all {x : En} (t : Nat) : get (tsel (before (es.length + 1)) 0 (wsOf (es ++ [x])) T0) t = get (pT x.o.dst x.d (tsel (before es.length) 0 (wsOf es) T0)) t := by
  unfold wsOf
  rw [List.map_append, List.map_cons, List.map_nil, tsel_app]
  simp only [List.length_map, Nat.zero_add]
  rw [before_lt (Nat.lt_succ_self _)]
  simp only [cond_true]
  have h : get (tsel (before (es.length + 1)) 0 (wsOf es) T0) t = get (tsel (before es.length) 0 (wsOf es) T0) t := by
    refine tsel_congr (fun k y hk hy => ?_) rfl
    have hl : k < es.length := by have := get_lt hk; simpa [wsOf] using this
    rw [Nat.zero_add, before_lt hl, before_lt (by omega)]
  rw [get_pT, get_pT]
  unfold wsOf at h
  rw [h]

theorem Cert.app (hc : Cert Pr nt al T0 H0 es Hn) {x : En} (hH : x.H = Hn) (ho : al[es.length]? = some x.o) (hg : guardO al (tsel (before es.length) 0 (wsOf es) T0) x.o.guard = some x.run)
    (hskip : x.run = false → x.d = skipD ∧ x.H' = x.H) (hev : x.run = true → Ab.evs (tsel (before es.length) 0 (wsOf es) T0) (opnds x.o.op) = some x.ds) (hdo : x.run = true → DetDoes Pr x.o x.ds x.H x.d x.H')
    (hq : x.lab = false → x.H' = x.H) (hd : ∀ t, x.o.dst = some t → t < nt)
    (hpast : x.lab = false → x.run = true → ∀ (l : Nat) (el : En), es[l]? = some el → el.lab = true → anc al l es.length = true ∨ DetDoes Pr x.o x.ds el.H x.d el.H)
    (hahead : x.lab = true → ∀ (q : Nat) (eq : En), es[q]? = some eq → eq.lab = false → eq.run = true → anc al q es.length = true ∨ DetDoes Pr eq.o eq.ds x.H' eq.d x.H') :
    Cert Pr nt al T0 H0 (es ++ [x]) x.H' where
  ops i e he := by
    rcases app_get he with ⟨h1, h2⟩ | ⟨rfl, rfl⟩
    · exact hc.ops i e h2
    · exact ho
  guard i e he := by
    rcases app_get he with ⟨h1, h2⟩ | ⟨rfl, rfl⟩
    · rw [tsel_pre (Nat.le_of_lt h1)]; exact hc.guard i e h2
    · rw [tsel_pre (Nat.le_refl _)]; exact hg
  skip i e he := by
    rcases app_get he with ⟨h1, h2⟩ | ⟨rfl, rfl⟩
    · exact hc.skip i e h2
    · exact hskip
  evs i e he := by
    rcases app_get he with ⟨h1, h2⟩ | ⟨rfl, rfl⟩
    · rw [tsel_pre (Nat.le_of_lt h1)]; exact hc.evs i e h2
    · rw [tsel_pre (Nat.le_refl _)]; exact hev
  does i e he := by
    rcases app_get he with ⟨h1, h2⟩ | ⟨rfl, rfl⟩
    · exact hc.does i e h2
    · exact hdo
  quiet i e he := by
    rcases app_get he with ⟨h1, h2⟩ | ⟨rfl, rfl⟩
    · exact hc.quiet i e h2
    · exact hq
  dst i e he := by
    rcases app_get he with ⟨h1, h2⟩ | ⟨rfl, rfl⟩
    · exact hc.dst i e h2
    · exact hd
  chain i e he := by
    rcases app_get he with ⟨h1, h2⟩ | ⟨rfl, rfl⟩
    · rw [hAt_app hH (by omega)]; exact hc.chain i e h2
    · simp [hAt]
  start := by rw [hAt_app hH (Nat.zero_le _)]; exact hc.start
  past q l eq el h1 h2 h3 h4 h5 h6 := by
    rcases app_get h1 with ⟨q1, q2⟩ | ⟨rfl, rfl⟩
    · rcases app_get h2 with ⟨l1, l2⟩ | ⟨rfl, rfl⟩
      · exact hc.past q l eq el q2 l2 h3 h4 h5 h6
      · omega
    · rcases app_get h2 with ⟨l1, l2⟩ | ⟨rfl, rfl⟩
      · exact hpast h3 h5 l el l2 h4
      · omega
  ahead q l eq el h1 h2 h3 h4 h5 h6 := by
    rcases app_get h1 with ⟨q1, q2⟩ | ⟨rfl, rfl⟩
    · rcases app_get h2 with ⟨l1, l2⟩ | ⟨rfl, rfl⟩
      · exact hc.ahead q l eq el q2 l2 h3 h4 h5 h6
      · exact hahead h4 q eq q2 h3 h5
    · rcases app_get h2 with ⟨l1, l2⟩ | ⟨rfl, rfl⟩
      · omega
      · omega

theorem draw_cert {K : Tm → Heap → Prop} {LB : List Bool} : ∀ (os : List Oper) (i : Nat) (prev : List (Nat × Heap)) (pend : List (Nat × Oper × List D × D)) (T : Tm) (H : Heap) (es : List En),
    drawP Pr nt al K os (LB.drop i) i prev pend T H → Cert Pr nt al T0 H0 es H → es.length = i → al.drop i = os →
    (∀ t, get T t = get (tsel (before i) 0 (wsOf es) T0) t) → (∀ (l : Nat) (el : En), es[l]? = some el → el.lab = true → (l, el.H) ∈ prev) →
    (∀ (q : Nat) (eq : En), es[q]? = some eq → eq.lab = false → eq.run = true → (q, eq.o, eq.ds, eq.d) ∈ pend) → (∀ (k : Nat) (e : En), es[k]? = some e → LB.getD k false = e.lab) →
    ∃ es' Hn Tn, Cert Pr nt al T0 H0 es' Hn ∧ es'.length = al.length ∧ (∀ (k : Nat) (e : En), es'[k]? = some e → LB.getD k false = e.lab) ∧ K Tn Hn ∧ ∀ t, get Tn t = get (tsel (before es'.length) 0 (wsOf es') T0) t
  | [], i, prev, pend, T, H, es, h, hc, hi, hal, hT, _, _, hl => by
    refine ⟨es, H, T, hc, ?_, hl, h, by rw [hi]; exact hT⟩
    have h1 : al.length ≤ i := by simpa using hal
    rcases Nat.lt_or_ge al.length es.length with h2 | h2
    · have hg : es[al.length]? = some es[al.length] := List.getElem?_eq_getElem h2
      have := hc.ops _ _ hg
      simp at this
    · omega
  | o :: os, i, prev, pend, T, H, es, h, hc, hi, hal, hT, hprev, hpend, hl => by
    subst hi
    cases hd : LB.drop es.length with
    | nil => rw [hd] at h; exact h.elim
    | cons lab labs =>
      rw [hd] at h
      have hlabs : LB.drop (es.length + 1) = labs := by
        have := congrArg List.tail hd
        simpa using this
      have hlab : LB.getD es.length false = lab := by
        have := congrArg (fun l => l[0]?) hd
        simp at this
        simp [List.getD_eq_getElem?_getD, this]
      have ho : al[es.length]? = some o := by
        have := congrArg (fun l => l[0]?) hal
        simpa using this
      have hos : al.drop (es.length + 1) = os := by
        have := congrArg List.tail hal
        simpa using this
      simp only [drawP] at h
      obtain ⟨b, T', hg, hT', hb⟩ := guardP_elim h
      rw [guardO_congr (fun t _ => hT t)] at hg
      have hTT : ∀ t, get T' t = get (tsel (before es.length) 0 (wsOf es) T0) t := fun t => (hT' t).trans (hT t)
      have hlab' : ∀ {x : En}, x.lab = lab → ∀ (k : Nat) (e : En), (es ++ [x])[k]? = some e → LB.getD k false = e.lab := fun {x} hx k e he => by
        rcases app_get he with ⟨_, h2⟩ | ⟨rfl, rfl⟩
        · exact hl k e h2
        · rw [hlab, hx]
      have hTn : ∀ {x : En}, ∀ t, x.o = o → get (pT o.dst x.d T') t = get (tsel (before (es ++ [x]).length) 0 (wsOf (es ++ [x])) T0) t := fun {x} t hx => by
        rw [List.length_append, List.length_singleton, tsel_all, hx, get_pT, get_pT, hTT]
      rcases hb with ⟨rfl, hy⟩ | ⟨rfl, hn⟩
      · unfold doP at hy
        cases hev : evs T' (opnds o.op) with
        | none => rw [hev] at hy; exact hy.elim
        | some ds =>
          rw [hev] at hy
          rw [evs_congr (fun t _ => hTT t)] at hev
          obtain ⟨d, H', hK, hdet⟩ := hy.det
          cases lab with
          | true =>
            obtain ⟨hpd, hput⟩ := hK
            obtain ⟨hnext, hnt, _⟩ := putP_elim hput
            let x : En := ⟨o, true, true, ds, d, H, H'⟩
            have hc2 := hc.app (x := x) rfl ho hg (fun h => by cases h) (fun _ => hev) (fun _ => hdet) (fun h => by cases h) hnt (fun h => by cases h)
              (fun _ q eq h1 h2 h3 => pendOK_mem hpd q eq.o eq.ds eq.d (hpend q eq h1 h2 h3))
            refine draw_cert os (es.length + 1) _ _ _ _ (es ++ [x]) (by rw [hlabs]; exact hnext) hc2 (by simp) hos (fun t => ?_) (fun l el h1 h2 => ?_) (fun q eq h1 h2 h3 => ?_) (hlab' rfl)
            · have := hTn (x := x) t rfl
              rw [List.length_append, List.length_singleton] at this; exact this
            · rcases app_get h1 with ⟨_, h1⟩ | ⟨rfl, rfl⟩
              · exact List.mem_cons_of_mem _ (hprev l el h1 h2)
              · exact List.mem_cons_self
            · rcases app_get h1 with ⟨_, h1⟩ | ⟨rfl, rfl⟩
              · exact hpend q eq h1 h2 h3
              · cases h2
          | false =>
            obtain ⟨rfl, hpv, hput⟩ := hK
            obtain ⟨hnext, hnt, _⟩ := putP_elim hput
            let x : En := ⟨o, false, true, ds, d, H', H'⟩
            have hc2 := hc.app (x := x) rfl ho hg (fun h => by cases h) (fun _ => hev) (fun _ => hdet) (fun h => rfl) hnt
              (fun _ _ l el h1 h2 => prevOK_mem hpv l el.H (hprev l el h1 h2)) (fun h => by cases h)
            refine draw_cert os (es.length + 1) _ _ _ _ (es ++ [x]) (by rw [hlabs]; exact hnext) hc2 (by simp) hos (fun t => ?_) (fun l el h1 h2 => ?_) (fun q eq h1 h2 h3 => ?_) (hlab' rfl)
            · have := hTn (x := x) t rfl
              rw [List.length_append, List.length_singleton] at this; exact this
            · rcases app_get h1 with ⟨_, h1⟩ | ⟨rfl, rfl⟩
              · exact hprev l el h1 h2
              · cases h2
            · rcases app_get h1 with ⟨_, h1⟩ | ⟨rfl, rfl⟩
              · exact List.mem_cons_of_mem _ (hpend q eq h1 h2 h3)
              · exact List.mem_cons_self
      · obtain ⟨hpd, hput⟩ := hn
        obtain ⟨hnext, hnt, _⟩ := putP_elim hput
        let x : En := ⟨o, lab, false, [], skipD, H, H⟩
        have hc2 := hc.app (x := x) rfl ho hg (fun _ => ⟨rfl, rfl⟩) (fun h => by cases h) (fun h => by cases h) (fun h => rfl) hnt
          (fun _ h => by cases h) (fun hx q eq h1 h2 h3 => by
            have : lab = true := hx
            subst this
            exact pendOK_mem hpd q eq.o eq.ds eq.d (hpend q eq h1 h2 h3))
        refine draw_cert os (es.length + 1) _ _ _ _ (es ++ [x]) (by rw [hlabs]; exact hnext) hc2 (by simp) hos (fun t => ?_) (fun l el h1 h2 => ?_) (fun q eq h1 h2 h3 => ?_) (hlab' rfl)
        · have := hTn (x := x) t rfl
          rw [List.length_append, List.length_singleton] at this; exact this
        · rcases app_get h1 with ⟨_, h1'⟩ | ⟨rfl, rfl⟩
          · have hm := hprev l el h1' h2
            cases lab with
            | true => exact List.mem_cons_of_mem _ hm
            | false => exact hm
          · have : lab = true := h2
            subst this
            exact List.mem_cons_self
        · rcases app_get h1 with ⟨_, h1⟩ | ⟨rfl, rfl⟩
          · exact hpend q eq h1 h2 h3
          · cases h3

/-- **A region whose order is drawn**: which of its operations change the heap is told; each of the others is asked in every heap in which it may be done. -/
def DrawA (Pr : Program) (nt : Nat) (al : List Oper) (T : Tm) (H : Heap) (K : Tm → Heap → Prop) : Prop :=
  ∃ labs, drawB labs al = true ∧ drawP Pr nt al K al labs 0 [] [] T H

theorem Run.drawA {f : FuncId} {m : Nat} {R : D → Heap → Prop} (hm : Pr.follows .mixedOrders = true) {id : Nat} {ops : Array Oper} {k : List CI} {T : Tm} {K : Tm → Heap → Prop} (hRun : ∀ T' H', K T' H' → Run Pr f nt m k T' H' R) (h : DrawA Pr nt ops.toList T H K) :
    Run Pr f nt m (.code (.region id ops true) :: k) T H R := by
  obtain ⟨labs, hB, h⟩ := h
  have hc0 : Cert Pr nt ops.toList T H [] H := by
    constructor <;> first | rfl | (intros; simp at *)
  obtain ⟨es, Hn, Tn, hc, hlen, hlab, hK, hT⟩ := draw_cert (LB := labs) ops.toList 0 [] [] T H [] (by simpa using h) hc0 rfl (by simp) (fun t => rfl) (fun l el h => by simp at h) (fun q eq h => by simp at h) (fun k e h => by simp at h)
  have hfwd : fwdB ops.toList = true := by
    simp only [drawB, Bool.and_eq_true] at hB; exact hB.1
  intro g M env a w b its cs hgm hf hk hcl hst
  obtain ⟨y, its', rfl, h1, h2⟩ := hcl.cons_inv
  rw [h1.code_inv]
  refine .step step_region_draw ?_
  have hord := schedule_order (Pr := Pr) hm hfwd (w.tape w.drawn (.order b.fn id))
  obtain ⟨c, _, hc1, hc2, hc3⟩ := next_loud es 0 (Nat.zero_le _)
  have hstart : hAt es Hn c = H := by
    rw [← hc.flat (Nat.zero_le c) hc3 hc1]; exact hc.start
  have hst0 : StI nt g (tsel (fun _ => false) 0 (wsOf es) T) (hAt es Hn c) M env a { w with drawn := w.drawn + 1 } := by
    rw [hstart]
    have h3 : StI nt g T H M env a { w with drawn := w.drawn + 1 } := hst.move (Ext.refl _ _) (hst.h.same rfl)
    exact h3.ext (fun t d hd => by rw [tsel_none (fun _ _ _ _ => rfl)] at hd; exact hd)
  obtain ⟨M', env', a', w', h3, h4⟩ := drawn_go (g := g) hc hlen hlab hB (all := ops) (fun j o h => by simpa using h) [] (b := b) (its := its') (cs := cs) _ _ c M env a _ hord (fun _ _ _ h => by cases h) (fun _ h => by cases h) hc1 hc2
    (fun l el h5 h6 => by
      rcases Nat.lt_or_ge l c with h7 | h7
      · have := hc3 l el (Nat.zero_le _) h7 h5; rw [this] at h6; cases h6
      · rw [blt_nlt (by omega)]) hst0
  rw [List.append_nil] at h4
  refine .steps h4 (.steps (.one step_region_end) ?_)
  refine hRun _ _ hK g M' env' a' w' b its' cs hgm hf hk h2 (h3.ext (fun t d hd => by rw [hT] at hd; exact hd))
end
end Go.Ab
