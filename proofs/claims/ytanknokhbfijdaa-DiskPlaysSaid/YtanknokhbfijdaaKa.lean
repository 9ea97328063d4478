/- An abstract machine over the model: values, heap, what each operation does; proved sound. No conditions. -/
import Derived.Calls
import Derived.Laws.Sem
import Derived.Laws.Cells
import Derived.Laws.Small
import Derived.Laws.Strings
import Derived.Laws.Pointers
import Derived.Laws.StructEq
import Derived.Laws.BytesArg
import Derived.Lib.ConvBytes
import Derived.Laws.Slices
import Derived.Laws.MakeOwn
import Derived.Great.BuildSlice
import Derived.Laws.Append
import Derived.Laws.AppendOwn
set_option linter.unusedVariables false
set_option linter.unusedSimpArgs false
/-
  The abstract machine: values, heap, what each operation does (definitions only, no proofs).
-/
namespace Go.Ab

/-- Values that never change: what lies behind them is never written again. -/
inductive P where
  | undef
  | nil
  | v (x : Value)
  | int (k : IntKind) (n : Int)
  | bool (b : Bool)
  | str (l : List UInt8)
  | agg (cs : List P)
  | lst (rows : List (List P))
  | vptr (row : List P) (off : Nat)
  | iface (t : TypeId) (x : P)

/-- Values that may point into the abstract heap. -/
inductive D where
  | p (x : P)
  | ptr (id row off : Nat)
  | own (id k start len : Nat) (cap : Option Nat)
  | mp (id : Nat)
  | box (id : Nat)
  | agg (cs : List D)
  | tup (cs : List D)
  | fn (f : Fn) (first cap : List D)
  | iface (t : TypeId) (x : D)

inductive Obj where
  | gone
  | rows (rs : List (List D))
  | map (es : List (P × D)) (bs : List Nat) (ck : Nat)
  | iter (mid since : Nat) (seen : List Nat) (last : Nat)

abbrev Heap := List Obj
abbrev Tm := List (Nat × D)

def nth {α : Type} : List α → Nat → Option α
  | [], _ => none
  | x :: _, 0 => some x
  | _ :: l, n + 1 => nth l n

def setN {α : Type} : List α → Nat → α → List α
  | [], _, _ => []
  | _ :: l, 0, y => y :: l
  | x :: l, n + 1, y => x :: setN l n y

def get : Tm → Nat → Option D
  | [], _ => none
  | (k, d) :: r, i => bif k == i then some d else get r i

def constP0 : Value → P
  | .int k n => .int k n
  | .bool b => .bool b
  | .string s => .str s.data.toList
  | .slice none 0 0 => .nil
  | x => .v x
def constP : Value → P
  | .agg vs => .agg (vs.toList.map constP0)
  | x => constP0 x

def ev (T : Tm) : Operand → Option D
  | .tmp t => get T t
  | .const v => some (.p (constP v))
  | .func f => some (.fn (.func f) [] [])
  | .global _ => none

def evs (T : Tm) : List Operand → Option (List D)
  | [] => some []
  | x :: xs => match ev T x with
    | none => none
    | some d => match evs T xs with
      | none => none
      | some ds => some (d :: ds)

/-- What is known of a type. -/
inductive TK where
  | bool | int (k : IntKind) | str | ptr (e : TypeId) | slice (e : TypeId) | array (n : Nat) (e : TypeId)
  | map (k e : TypeId) | struct (fs : List (Nat × TypeId)) | iface | other
structure TI where
  tk : TK
  size : Nat
  bytes : Nat
  zero : P
def tkOf : TypeDesc → TK
  | .bool => .bool
  | .int k => .int k
  | .string => .str
  | .pointer e => .ptr e
  | .slice e => .slice e
  | .array n e => .array n e
  | .map k e => .map k e
  | .struct fs => .struct (fs.toList.map fun f => (f.offset, f.type))
  | .interface _ => .iface
  | _ => .other
def tyOf (Pr : Program) (t : TypeId) : Option TI :=
  match Pr.info? t with
  | none => none
  | some i => match Pr.underlying t with
    | none => none
    | some d => match i.zero with
      | none => none
      | some z => some ⟨tkOf d, i.size, i.bytes, constP z⟩
def TK.isAgg : TK → Bool
  | .array _ _ => true
  | .struct _ => true
  | _ => false

def takeN {α : Type} : Nat → List α → Option (List α)
  | 0, _ => some []
  | _ + 1, [] => none
  | n + 1, x :: l => match takeN n l with
    | none => none
    | some r => some (x :: r)
def dropN {α : Type} : Nat → List α → List α
  | 0, l => l
  | _ + 1, [] => []
  | n + 1, _ :: l => dropN n l

def allP : List D → Option (List P)
  | [] => some []
  | .p x :: ds => match allP ds with
    | some xs => some (x :: xs)
    | none => none
  | _ :: _ => none
def mkAggOf : Option (List P) → List D → D
  | some xs, _ => .p (.agg xs)
  | none, ds => .agg ds
def mkAgg (ds : List D) : D := mkAggOf (allP ds) ds
def cellsOf : D → Option (List D)
  | .p .undef => none
  | .p (.agg xs) => some (xs.map .p)
  | .p (.v x) => bif x.oneCell' then some [.p (.v x)] else none
  | .agg ds => some ds
  | .tup _ => none
  | d => some [d]
/-- The value of one cell. -/
def isOne : D → Bool
  | .p .undef => false
  | .p (.agg _) => false
  | .p (.v x) => x.oneCell'
  | .agg _ => false
  | .tup _ => false
  | _ => true

/-- What an operation comes to. -/
inductive OV where
  | val (d : D) (H : Heap)
  | call (f : FuncId) (ds : List D)
  | pre (p : Prop) (o : OV)
  | bad

def ovOfRow (ti : TI) (row : List D) (off : Nat) (H : Heap) : OV :=
  match ti.tk.isAgg with
  | true => match takeN ti.size (dropN off row) with
    | some cs => .val (mkAgg cs) H
    | none => .bad
  | false => match nth row off with
    | some d => .val d H
    | none => .bad
def ovOfRowP (ti : TI) (row : List P) (off : Nat) (H : Heap) : OV :=
  match ti.tk.isAgg with
  | true => match takeN ti.size (dropN off row) with
    | some cs => .val (.p (.agg cs)) H
    | none => .bad
  | false => match nth row off with
    | some d => .val (.p d) H
    | none => .bad

/-- Writes cells into a row. -/
def putCells : List D → Nat → List D → Option (List D)
  | row, _, [] => some row
  | [], _, _ :: _ => none
  | _ :: row, 0, c :: cs => match isOne c, putCells row 0 cs with
    | true, some r => some (c :: r)
    | _, _ => none
  | x :: row, n + 1, c :: cs => match putCells row n (c :: cs) with
    | some r => some (x :: r)
    | none => none
end Go.Ab
/-
  How the abstract state tells the concrete one; what keeps that.
-/
namespace Go.Ab

/-- Cells of memory that never change. -/
abbrev Mem := Nat → Nat → Option Value

structure Blk where
  b : Option Nat
  o : Nat
  k : Nat
  n : Nat

inductive RdP (M : Mem) : P → Value → Prop
  | undef {x} : RdP M .undef x
  | nil : RdP M .nil (.slice none 0 0)
  | v {x} : RdP M (.v x) x
  | int {k n} : RdP M (.int k n) (.int k n)
  | bool {b} : RdP M (.bool b) (.bool b)
  | str {l} {s : ByteArray} (h : s.data.toList = l) : RdP M (.str l) (.string s)
  | agg {cs : List P} {vs : Array Value} (hl : cs.length = vs.size)
      (h : ∀ (i : Nat) (c : P) (x : Value), cs[i]? = some c → vs[i]? = some x → RdP M c x) : RdP M (.agg cs) (.agg vs)
  | lstNil : RdP M (.lst []) (.slice none 0 0)
  | lstE {a : Addr} {cap : Nat} : RdP M (.lst []) (.slice (some a) 0 cap)
  | lst {rows : List (List P)} {k b o cap : Nat} {c : Nat → Nat → Value} (hk : ∀ r ∈ rows, r.length = k) (hcap : rows.length ≤ cap)
      (hM : ∀ (i j : Nat) (row : List P) (p : P), rows[i]? = some row → row[j]? = some p → M b (o + i * k + j) = some (c i j))
      (hR : ∀ (i j : Nat) (row : List P) (p : P), rows[i]? = some row → row[j]? = some p → RdP M p (c i j)) :
      RdP M (.lst rows) (.slice (some ⟨b, o, none⟩) rows.length cap)
  | vptr {row : List P} {off b o : Nat} {c : Nat → Value} (hM : ∀ (j : Nat) (p : P), row[j]? = some p → M b (o + j) = some (c j))
      (hR : ∀ (j : Nat) (p : P), row[j]? = some p → RdP M p (c j)) : RdP M (.vptr row off) (.pointer (some ⟨b, o + off, none⟩))
  | iface {t x y} (h : RdP M x y) : RdP M (.iface t x) (.iface t y)

inductive RdD (M : Mem) (env : List Blk) : D → Value → Prop
  | p {x v} (h : RdP M x v) : RdD M env (.p x) v
  | ptr {id row off blk b} (h : env[id]? = some blk) (hb : blk.b = some b) : RdD M env (.ptr id row off) (.pointer (some ⟨b, blk.o + row * blk.k + off, none⟩))
  | ownNil {id k start cap blk} (h : env[id]? = some blk) (hb : blk.b = none) (hk : blk.k = k) (hc : ∀ c', cap = some c' → c' = 0) :
      RdD M env (.own id k start 0 cap) (.slice none 0 0)
  | own {id k start len cap blk b o c} (h : env[id]? = some blk) (hb : blk.b = some b) (hk : blk.k = k) (ho : c ≠ 0 → o = blk.o + start * k)
      (hl : len ≤ c) (hn : (start + c) * k ≤ blk.n) (hc : ∀ c', cap = some c' → c' = c) :
      RdD M env (.own id k start len cap) (.slice (some ⟨b, o, none⟩) len c)
  | mp {id blk b} (h : env[id]? = some blk) (hb : blk.b = some b) : RdD M env (.mp id) (.map (some b))
  | box {id blk b bm} (h : env[id]? = some blk) (hb : blk.b = some bm) (hM : M b 0 = some (.map (some bm))) : RdD M env (.box id) (.pointer (some ⟨b, 0, none⟩))
  | agg {cs : List D} {vs : Array Value} (hl : cs.length = vs.size)
      (h : ∀ (i : Nat) (c : D) (x : Value), cs[i]? = some c → vs[i]? = some x → RdD M env c x) : RdD M env (.agg cs) (.agg vs)
  | tup {cs : List D} {vs : Array Value} (hl : cs.length = vs.size)
      (h : ∀ (i : Nat) (c : D) (x : Value), cs[i]? = some c → vs[i]? = some x → RdD M env c x) : RdD M env (.tup cs) (.tuple vs)
  | fn {f : Fn} {first cap : List D} {vf vc : Array Value} (hlf : first.length = vf.size) (hlc : cap.length = vc.size)
      (hf : ∀ (i : Nat) (c : D) (x : Value), first[i]? = some c → vf[i]? = some x → RdD M env c x)
      (hc : ∀ (i : Nat) (c : D) (x : Value), cap[i]? = some c → vc[i]? = some x → RdD M env c x) : RdD M env (.fn f first cap) (.func f vf vc)
  | iface {t x y} (h : RdD M env x y) : RdD M env (.iface t x) (.iface t y)

/-- All of a list. -/
def RdL (M : Mem) (env : List Blk) (ds : List D) (vs : List Value) : Prop :=
  ds.length = vs.length ∧ ∀ (i : Nat) (d : D) (x : Value), ds[i]? = some d → vs[i]? = some x → RdD M env d x

def MemLe (M M' : Mem) : Prop := ∀ b i x, M b i = some x → M' b i = some x
def Ext (M : Mem) (env : List Blk) (M' : Mem) (env' : List Blk) : Prop := MemLe M M' ∧ env <+: env'

theorem MemLe.refl (M : Mem) : MemLe M M := fun _ _ _ h => h
theorem MemLe.trans {A B C : Mem} (h : MemLe A B) (h' : MemLe B C) : MemLe A C := fun b i x k => h' b i x (h b i x k)
theorem Ext.refl (M : Mem) (env : List Blk) : Ext M env M env := ⟨MemLe.refl M, List.prefix_refl _⟩
theorem Ext.trans {A B C : Mem} {a b c : List Blk} (h : Ext A a B b) (h' : Ext B b C c) : Ext A a C c := ⟨h.1.trans h'.1, h.2.trans h'.2⟩
theorem Ext.push (M : Mem) (env : List Blk) (l : List Blk) : Ext M env M (env ++ l) := ⟨MemLe.refl M, List.prefix_append _ _⟩
theorem prefix_get {α : Type} {l l' : List α} (h : l <+: l') {i : Nat} {x : α} (hx : l[i]? = some x) : l'[i]? = some x := by
  obtain ⟨t, rfl⟩ := h
  rw [List.getElem?_append_left (by rcases Nat.lt_or_ge i l.length with h | h; exact h; rw [List.getElem?_eq_none h] at hx; cases hx)]
  exact hx

theorem RdP.mono {M M' : Mem} (hm : MemLe M M') {p : P} {v : Value} (h : RdP M p v) : RdP M' p v := by
  induction h with
  | undef => exact .undef
  | nil => exact .nil
  | v => exact .v
  | int => exact .int
  | bool => exact .bool
  | str h => exact .str h
  | agg hl h ih => exact .agg hl ih
  | lstNil => exact .lstNil
  | lstE => exact .lstE
  | lst hk hcap hM hR ih => exact .lst hk hcap (fun i j row p h1 h2 => hm _ _ _ (hM i j row p h1 h2)) ih
  | vptr hM hR ih => exact .vptr (fun j p h => hm _ _ _ (hM j p h)) ih
  | iface h ih => exact .iface ih

theorem RdD.mono {M M' : Mem} {env env' : List Blk} (he : Ext M env M' env') {d : D} {v : Value} (h : RdD M env d v) : RdD M' env' d v := by
  induction h with
  | p h => exact .p (h.mono he.1)
  | ptr h hb => exact .ptr (prefix_get he.2 h) hb
  | ownNil h hb hk hc => exact .ownNil (prefix_get he.2 h) hb hk hc
  | own h hb hk ho hl hn hc => exact .own (prefix_get he.2 h) hb hk ho hl hn hc
  | mp h hb => exact .mp (prefix_get he.2 h) hb
  | box h hb hM => exact .box (prefix_get he.2 h) hb (he.1 _ _ _ hM)
  | agg hl h ih => exact .agg hl ih
  | tup hl h ih => exact .tup hl ih
  | fn hlf hlc hf hc ihf ihc => exact .fn hlf hlc ihf ihc
  | iface h ih => exact .iface ih

theorem RdL.mono {M M' : Mem} {env env' : List Blk} (he : Ext M env M' env') {ds : List D} {vs : List Value} (h : RdL M env ds vs) : RdL M' env' ds vs :=
  ⟨h.1, fun i d x h1 h2 => (h.2 i d x h1 h2).mono he⟩
theorem RdL.nil {M : Mem} {env : List Blk} : RdL M env [] [] := ⟨rfl, fun i d x h _ => by simp at h⟩
theorem RdL.cons {M : Mem} {env : List Blk} {d : D} {v : Value} {ds : List D} {vs : List Value} (h : RdD M env d v) (hs : RdL M env ds vs) : RdL M env (d :: ds) (v :: vs) :=
  ⟨by simp [hs.1], fun i e x h1 h2 => by
    cases i with
    | zero => simp at h1 h2; subst h1; subst h2; exact h
    | succ i => simp at h1 h2; exact hs.2 i e x h1 h2⟩
theorem RdL.cons_inv {M : Mem} {env : List Blk} {d : D} {ds : List D} {vs : List Value} (h : RdL M env (d :: ds) vs) : ∃ v vs', vs = v :: vs' ∧ RdD M env d v ∧ RdL M env ds vs' := by
  obtain ⟨hl, h⟩ := h
  cases vs with
  | nil => simp at hl
  | cons v vs' => exact ⟨v, vs', rfl, h 0 d v rfl rfl, by simpa using hl, fun i e x h1 h2 => h (i + 1) e x (by simpa using h1) (by simpa using h2)⟩
theorem RdL.nil_inv {M : Mem} {env : List Blk} {vs : List Value} (h : RdL M env [] vs) : vs = [] := by
  exact List.length_eq_zero_iff.1 (by have := h.1; simpa using this.symm)
theorem RdL.append {M : Mem} {env : List Blk} {ds es : List D} {vs us : List Value} (h : RdL M env ds vs) (h' : RdL M env es us) : RdL M env (ds ++ es) (vs ++ us) := by
  induction ds generalizing vs with
  | nil => rw [h.nil_inv]; exact h'
  | cons d ds ih => obtain ⟨v, vs', rfl, hv, hs⟩ := h.cons_inv; exact .cons hv (ih hs)

theorem nth_eq {α : Type} (l : List α) (i : Nat) : nth l i = l[i]? := by
  induction l generalizing i with
  | nil => simp [nth]
  | cons x l ih => cases i <;> simp [nth, ih]
theorem setN_eq {α : Type} (l : List α) (i : Nat) (y : α) : setN l i y = l.set i y := by
  induction l generalizing i with
  | nil => simp [setN]
  | cons x l ih => cases i <;> simp [setN, ih]
theorem dropN_eq {α : Type} (n : Nat) (l : List α) : dropN n l = l.drop n := by
  induction n generalizing l with
  | zero => rfl
  | succ n ih => cases l <;> simp [dropN, ih]
theorem takeN_eq {α : Type} {n : Nat} {l r : List α} (h : takeN n l = some r) : r = l.take n ∧ n ≤ l.length := by
  induction n generalizing l r with
  | zero => simp [takeN] at h; subst h; simp
  | succ n ih =>
    cases l with
    | nil => simp [takeN] at h
    | cons x l =>
      simp only [takeN] at h
      cases hr : takeN n l with
      | none => simp [hr] at h
      | some r' => simp [hr] at h; subst h; have := ih hr; simp [this.1]; omega

/-- What is held against writing lies behind the cells. -/
def FroOK (n : Nat) (fro : Nat × Nat) : Prop := fro.1 = fro.2 ∨ n ≤ fro.1
theorem FroOK.not {n : Nat} {fro : Nat × Nat} (h : FroOK n fro) : ∀ i, i < n → ¬ (fro.1 ≤ i ∧ i < fro.2) := fun i hi q => by
  rcases h with h | h <;> omega
def ObjR (M : Mem) (env : List Blk) (w : World) (blk : Blk) : Obj → Prop
  | .gone => True
  | .rows rs => match blk.b with
    | none => rs = []
    | some b => ∃ (c : Array Value) (e : TypeId) (fro : Nat × Nat), w.heap[b]? = some (.cells c e fro) ∧ blk.o + blk.n ≤ c.size ∧ rs.length * blk.k ≤ blk.n ∧
        (∀ r ∈ rs, r.length = blk.k) ∧
        (∀ (i j : Nat) (row : List D) (d : D), rs[i]? = some row → row[j]? = some d → ∃ x, c[blk.o + i * blk.k + j]? = some x ∧ RdD M env d x) ∧
        FroOK c.size fro
  | .iter mid since seen last => ∃ b, blk.b = some b ∧ blk.o = 0 ∧ ∃ bm mb, env[mid]? = some bm ∧ bm.b = some mb ∧ w.heap[b]? = some (.mapIter (some mb) since seen.toArray last)
  | .map es bs ck => ∃ b, blk.b = some b ∧ ∃ (ents : Array MapEntry), w.heap[b]? = some (.map ents ck) ∧ es.length = ents.size ∧ bs = ents.toList.map (·.born) ∧
        (∀ (i : Nat) (k : P) (d : D) (m : MapEntry), es[i]? = some (k, d) → ents[i]? = some m → RdP M k m.key ∧ RdD M env d m.val)

def Obj.live : Obj → Bool
  | .gone => false
  | _ => true

theorem ObjR.mono {M M' : Mem} {env env' : List Blk} {w w' : World} {blk : Blk} {o : Obj} (h : ObjR M env w blk o) (he : Ext M env M' env')
    (hw : o.live = true → ∀ b, blk.b = some b → w'.heap[b]? = w.heap[b]?) : ObjR M' env' w' blk o := by
  cases o with
  | gone => trivial
  | rows rs =>
    simp only [ObjR] at h ⊢
    cases hb : blk.b with
    | none => simpa [hb] using h
    | some b =>
      simp only [hb] at h ⊢
      obtain ⟨c, e, fro, h1, h2, h3, h4, h5, h6⟩ := h
      refine ⟨c, e, fro, by rw [hw rfl b hb]; exact h1, h2, h3, h4, fun i j row d hi hj => ?_, h6⟩
      obtain ⟨x, hx, hr⟩ := h5 i j row d hi hj
      exact ⟨x, hx, hr.mono he⟩
  | iter mid since seen last =>
    obtain ⟨b, hb, hz, bm, mb, h1, h2, h3⟩ := h
    exact ⟨b, hb, hz, bm, mb, prefix_get he.2 h1, h2, by rw [hw rfl b hb]; exact h3⟩
  | map es bs ck =>
    obtain ⟨b, hb, ents, h1, h2, h4, h3⟩ := h
    refine ⟨b, hb, ents, by rw [hw rfl b hb]; exact h1, h2, h4, fun i k d m hi hm => ?_⟩
    have := h3 i k d m hi hm
    exact ⟨this.1.mono he.1, this.2.mono he⟩

structure SimH (M : Mem) (env : List Blk) (H : Heap) (w : World) : Prop where
  len : env.length = H.length
  obj : ∀ (i : Nat) (blk : Blk) (o : Obj), env[i]? = some blk → H[i]? = some o → ObjR M env w blk o
  dist : ∀ (i j : Nat) (bi bj : Blk) (oi oj : Obj) (b : Nat), env[i]? = some bi → env[j]? = some bj → H[i]? = some oi → H[j]? = some oj →
    oi.live = true → oj.live = true → bi.b = some b → bj.b = some b → i = j
  mem : ∀ b i x, M b i = some x → w.cell? ⟨b, i, none⟩ = some x
  disj : ∀ (i : Nat) (blk : Blk) (o : Obj) (b j : Nat), env[i]? = some blk → H[i]? = some o → o.live = true → blk.b = some b → M b j = none
  lt : ∀ (i : Nat) (blk : Blk) (b : Nat), env[i]? = some blk → blk.b = some b → b < w.heap.size

structure G where
  w0 : World
  M0 : Mem
  env0 : List Blk

/-- Neither what the system is nor what was written. -/
def SoR (a b : World) : Prop := b.os = a.os ∧ b.output = a.output ∧ b.tape = a.tape
theorem SoR.refl (a : World) : SoR a a := ⟨rfl, rfl, rfl⟩
theorem SoR.trans {a b c : World} (h : SoR a b) (h' : SoR b c) : SoR a c := ⟨h'.1.trans h.1, h'.2.1.trans h.2.1, h'.2.2.trans h.2.2⟩
structure FrameR (g : G) (M : Mem) (env : List Blk) (w : World) : Prop where
  hs : g.w0.heap.size ≤ w.heap.size
  fr : ∀ b, b < g.w0.heap.size → (∀ blk ∈ g.env0, blk.b ≠ some b) → w.heap[b]? = g.w0.heap[b]?
  newb : ∀ (i : Nat) (blk : Blk) (b : Nat), env[i]? = some blk → g.env0.length ≤ i → blk.b = some b → g.w0.heap.size ≤ b ∨ ∃ bl ∈ g.env0, bl.b = some b
  newM : ∀ b i x, M b i = some x → g.M0 b i = some x ∨ g.w0.heap.size ≤ b ∨ ∃ blk ∈ g.env0, blk.b = some b
  so : SoR g.w0 w

/-- Memory and heap, without the temporaries. -/
structure StH (g : G) (H : Heap) (M : Mem) (env : List Blk) (w : World) : Prop where
  ext : Ext g.M0 g.env0 M env
  sim : SimH M env H w
  frame : FrameR g M env w

structure StI (nt : Nat) (g : G) (T : Tm) (H : Heap) (M : Mem) (env : List Blk) (a : Act) (w : World) : Prop where
  h : StH g H M env w
  tmps : ∀ i d, get T i = some d → ∃ x, a.tmps[i]? = some x ∧ RdD M env d x
  size : nt ≤ a.tmps.size
  defers : a.defers = []

theorem get_cons (k : Nat) (d : D) (r : Tm) (i : Nat) : get ((k, d) :: r) i = if k = i then some d else get r i := by
  simp only [get]
  by_cases h : k = i
  · simp [h]
  · have : (k == i) = false := by simpa using h
    simp [h, this]

/-- The abstract state moves on with the world: what was told stays told. -/
theorem StI.move {nt : Nat} {g : G} {T : Tm} {H H' : Heap} {M M' : Mem} {env env' : List Blk} {a : Act} {w w' : World} (h : StI nt g T H M env a w) (he : Ext M env M' env')
    (h' : StH g H' M' env' w') : StI nt g T H' M' env' a w' :=
  ⟨h', fun i d hd => let ⟨x, hx, hr⟩ := h.tmps i d hd; ⟨x, hx, hr.mono he⟩, h.size, h.defers⟩

theorem StI.put {nt : Nat} {g : G} {T : Tm} {H : Heap} {M : Mem} {env : List Blk} {a : Act} {w : World} (h : StI nt g T H M env a w) {t : Nat} {d : D} {v : Value} (ht : t < nt)
    (hr : RdD M env d v) : StI nt g ((t, d) :: T) H M env (a.put (some t) v) w := by
  refine ⟨h.h, fun i e hi => ?_, by simpa [Act.put] using h.size, by simpa [Act.put] using h.defers⟩
  rw [get_cons] at hi
  by_cases hti : t = i
  · simp only [hti, if_true, Option.some.injEq] at hi
    subst hi; subst hti
    exact ⟨v, by simp [Act.put, Nat.lt_of_lt_of_le ht h.size], hr⟩
  · simp only [hti, if_false] at hi
    obtain ⟨x, hx, hr'⟩ := h.tmps i e hi
    exact ⟨x, by simp [Act.put, hti, hx], hr'⟩
theorem StI.putNone {nt : Nat} {g : G} {T : Tm} {H : Heap} {M : Mem} {env : List Blk} {a : Act} {w : World} (h : StI nt g T H M env a w) (v : Value) : StI nt g T H M env (a.put none v) w := h
end Go.Ab
/-
  What a change of memory does to the abstract state.
-/
namespace Go.Ab

theorem cell_of {w : World} {b i : Nat} {x : Value} (h : w.cell? ⟨b, i, none⟩ = some x) : ∃ c e fro, w.heap[b]? = some (.cells c e fro) ∧ c[i]? = some x := by
  unfold World.cell? at h
  split at h
  · rename_i c e fro hb
    exact ⟨c, e, fro, hb, by simpa using h⟩
  · cases h
theorem cell_mk {w : World} {b i : Nat} {c : Array Value} {e : TypeId} {fro : Nat × Nat} (h : w.heap[b]? = some (.cells c e fro)) : w.cell? ⟨b, i, none⟩ = c[i]? := by
  unfold World.cell?
  simp [h]
theorem cell_lt {w : World} {b i : Nat} {x : Value} (h : w.cell? ⟨b, i, none⟩ = some x) : b < w.heap.size := by
  obtain ⟨c, e, fro, hb, _⟩ := cell_of h
  rcases Nat.lt_or_ge b w.heap.size with h' | h'
  · exact h'
  · rw [Array.getElem?_eq_none h'] at hb; cases hb
theorem cell_same {w w' : World} {b i : Nat} (h : w'.heap[b]? = w.heap[b]?) : w'.cell? ⟨b, i, none⟩ = w.cell? ⟨b, i, none⟩ := by
  unfold World.cell?
  simp [h]
theorem heap_lt {w : World} {b : Nat} {o : Go.Obj} (h : w.heap[b]? = some o) : b < w.heap.size := by
  rcases Nat.lt_or_ge b w.heap.size with h' | h'
  · exact h'
  · rw [Array.getElem?_eq_none h'] at h; cases h

variable {M : Mem} {env : List Blk} {H : Heap} {w w' : World}

theorem SimH.mem_none (h : SimH M env H w) (b j : Nat) (hb : w.heap.size ≤ b) : M b j = none := by
  cases hm : M b j with
  | none => rfl
  | some x => have := cell_lt (h.mem b j x hm); omega

theorem SimH.same (h : SimH M env H w) (hw : w'.heap = w.heap) : SimH M env H w' where
  len := h.len
  obj i blk o h1 h2 := (h.obj i blk o h1 h2).mono (Ext.refl _ _) (fun _ b _ => by rw [hw])
  dist := h.dist
  mem b i x hx := (cell_same (by rw [hw])).trans (h.mem b i x hx)
  disj := h.disj
  lt i blk b h1 h2 := by rw [hw]; exact h.lt i blk b h1 h2

theorem append_get_new {α : Type} {l : List α} {x y : α} {i : Nat} (h : (l ++ [x])[i]? = some y) : (l[i]? = some y ∧ i < l.length) ∨ (i = l.length ∧ y = x) := by
  rcases Nat.lt_or_ge i l.length with hi | hi
  · rw [List.getElem?_append_left hi] at h; exact .inl ⟨h, hi⟩
  · rw [List.getElem?_append_right hi] at h
    have : i - l.length = 0 := by
      rcases Nat.eq_zero_or_pos (i - l.length) with h0 | h0
      · exact h0
      · rw [List.getElem?_eq_none (by simp; omega)] at h; cases h
    rw [this] at h
    simp at h
    exact .inr ⟨by omega, h.symm⟩

/-- A new block behind all others. -/
theorem SimH.push (h : SimH M env H w) {ob : Go.Obj} {blk : Blk} {o : Obj} (hw : w'.heap = w.heap.push ob) (hb : blk.b = some w.heap.size)
    (ho : ObjR M (env ++ [blk]) w' blk o) : SimH M (env ++ [blk]) (H ++ [o]) w' := by
  have hold : ∀ b, b < w.heap.size → w'.heap[b]? = w.heap[b]? := fun b hb => by rw [hw, Array.getElem?_push_lt hb, Array.getElem?_eq_getElem hb]
  refine ⟨by simp [h.len], ?_, ?_, ?_, ?_, ?_⟩
  · intro i bi oi h1 h2
    rcases append_get_new h1 with ⟨h1, hi⟩ | ⟨hi, rfl⟩
    · rcases append_get_new h2 with ⟨h2, _⟩ | ⟨h2, _⟩
      · exact (h.obj i bi oi h1 h2).mono (Ext.push _ _ _) (fun _ b hb' => hold b (h.lt i bi b h1 hb'))
      · have := h.len; omega
    · rcases append_get_new h2 with ⟨_, h2⟩ | ⟨_, rfl⟩
      · have := h.len; omega
      · exact ho
  · intro i j bi bj oi oj b h1 h2 h3 h4 h5 h6 h7 h8
    have hl := h.len
    rcases append_get_new h1 with ⟨q1, hi⟩ | ⟨hi, e1⟩ <;> rcases append_get_new h2 with ⟨q2, hj⟩ | ⟨hj, e2⟩ <;>
      rcases append_get_new h3 with ⟨q3, hi'⟩ | ⟨hi', e3⟩ <;> rcases append_get_new h4 with ⟨q4, hj'⟩ | ⟨hj', e4⟩ <;> try omega
    · exact h.dist i j bi bj oi oj b q1 q2 q3 q4 h5 h6 h7 h8
    · have := h.lt i bi b q1 h7
      rw [e2, hb] at h8; simp at h8; omega
    · have := h.lt j bj b q2 h8
      rw [e1, hb] at h7; simp at h7; omega
  · intro b i x hx
    rw [cell_same (hold b (cell_lt (h.mem b i x hx)))]
    exact h.mem b i x hx
  · intro i bi oi b j h1 h2 h3 h4
    have hl := h.len
    rcases append_get_new h1 with ⟨h1, hi⟩ | ⟨hi, rfl⟩
    · rcases append_get_new h2 with ⟨h2, hj⟩ | ⟨hj, rfl⟩
      · exact h.disj i bi oi b j h1 h2 h3 h4
      · omega
    · rw [hb] at h4; simp at h4; subst h4
      exact h.mem_none _ _ (Nat.le_refl _)
  · intro i bi b h1 h2
    have hs : w'.heap.size = w.heap.size + 1 := by rw [hw]; simp
    rcases append_get_new h1 with ⟨h1, hi⟩ | ⟨hi, rfl⟩
    · have := h.lt i bi b h1 h2; omega
    · rw [hb] at h2; simp at h2; omega

/-- A row of nothing, without a block. -/
theorem SimH.virt (h : SimH M env H w) {blk : Blk} (hb : blk.b = none) : SimH M (env ++ [blk]) (H ++ [.rows []]) w := by
  refine ⟨by simp [h.len], ?_, ?_, h.mem, ?_, ?_⟩
  · intro i bi oi h1 h2
    rcases append_get_new h1 with ⟨h1, hi⟩ | ⟨hi, rfl⟩
    · rcases append_get_new h2 with ⟨h2, _⟩ | ⟨h2, _⟩
      · exact (h.obj i bi oi h1 h2).mono (Ext.push _ _ _) (fun _ b hb' => rfl)
      · have := h.len; omega
    · rcases append_get_new h2 with ⟨_, h2⟩ | ⟨_, rfl⟩
      · have := h.len; omega
      · simp [ObjR, hb]
  · intro i j bi bj oi oj b h1 h2 h3 h4 h5 h6 h7 h8
    have hl := h.len
    rcases append_get_new h1 with ⟨h1, hi⟩ | ⟨hi, rfl⟩
    · rcases append_get_new h2 with ⟨h2, hj⟩ | ⟨hj, rfl⟩
      · rcases append_get_new h3 with ⟨h3, hi'⟩ | ⟨hi', rfl⟩
        · rcases append_get_new h4 with ⟨h4, hj'⟩ | ⟨hj', rfl⟩
          · exact h.dist i j bi bj oi oj b h1 h2 h3 h4 h5 h6 h7 h8
          · omega
        · omega
      · rw [hb] at h8; cases h8
    · rw [hb] at h7; cases h7
  · intro i bi oi b j h1 h2 h3 h4
    have hl := h.len
    rcases append_get_new h1 with ⟨h1, hi⟩ | ⟨hi, rfl⟩
    · rcases append_get_new h2 with ⟨h2, hj⟩ | ⟨hj, rfl⟩
      · exact h.disj i bi oi b j h1 h2 h3 h4
      · omega
    · rw [hb] at h4; cases h4
  · intro i bi b h1 h2
    rcases append_get_new h1 with ⟨h1, hi⟩ | ⟨hi, rfl⟩
    · exact h.lt i bi b h1 h2
    · rw [hb] at h2; cases h2

/-- One object turned: its block alone has changed. -/
theorem SimH.set (h : SimH M env H w) {id : Nat} {blk : Blk} {o o' : Obj} {b : Nat} (he : env[id]? = some blk) (ho : H[id]? = some o) (hlv : o.live = true) (hb : blk.b = some b)
    (hs : w'.heap.size = w.heap.size) (hold : ∀ b', b' ≠ b → w'.heap[b']? = w.heap[b']?) (ho' : ObjR M env w' blk o') : SimH M env (H.set id o') w' := by
  have hid : id < H.length := by
    rcases Nat.lt_or_ge id H.length with h' | h'
    · exact h'
    · rw [List.getElem?_eq_none h'] at ho; cases ho
  refine ⟨by simp [h.len], ?_, ?_, ?_, ?_, ?_⟩
  · intro i bi oi h1 h2
    by_cases hi : id = i
    · subst hi
      rw [List.getElem?_set_self hid] at h2
      simp at h2; subst h2
      rw [he] at h1; simp at h1; subst h1
      exact ho'
    · rw [List.getElem?_set_ne hi] at h2
      refine (h.obj i bi oi h1 h2).mono (Ext.refl _ _) (fun hl b' hb' => hold b' (fun hbb => hi ?_))
      subst hbb
      exact h.dist id i blk bi o oi b' he h1 ho h2 hlv hl hb hb'
  · intro i j bi bj oi oj b' h1 h2 h3 h4 h5 h6 h7 h8
    by_cases hi : id = i <;> by_cases hj : id = j
    · omega
    · subst hi
      rw [List.getElem?_set_ne hj] at h4
      exact h.dist id j bi bj o oj b' h1 h2 ho h4 hlv h6 h7 h8
    · subst hj
      rw [List.getElem?_set_ne hi] at h3
      exact h.dist i id bi bj oi o b' h1 h2 h3 ho h5 hlv h7 h8
    · rw [List.getElem?_set_ne hi] at h3
      rw [List.getElem?_set_ne hj] at h4
      exact h.dist i j bi bj oi oj b' h1 h2 h3 h4 h5 h6 h7 h8
  · intro b' i x hx
    rw [cell_same (hold b' (fun hbb => ?_))]
    · exact h.mem b' i x hx
    · subst hbb
      have := h.disj id blk o b' i he ho hlv hb
      rw [hx] at this; cases this
  · intro i bi oi b' j h1 h2 h3 h4
    by_cases hi : id = i
    · subst hi
      exact h.disj id bi o b' j h1 ho hlv h4
    · rw [List.getElem?_set_ne hi] at h2
      exact h.disj i bi oi b' j h1 h2 h3 h4
  · intro i bi b' h1 h2
    rw [hs]; exact h.lt i bi b' h1 h2

/-- An object is let go. -/
theorem SimH.kill (h : SimH M env H w) (id : Nat) : SimH M env (H.set id .gone) w := by
  refine ⟨by simp [h.len], ?_, ?_, h.mem, ?_, h.lt⟩
  · intro i bi oi h1 h2
    by_cases hi : id = i
    · subst hi
      rcases Nat.lt_or_ge id H.length with h' | h'
      · rw [List.getElem?_set_self h'] at h2
        simp at h2; subst h2; trivial
      · rw [List.getElem?_eq_none (by simpa using h')] at h2; cases h2
    · rw [List.getElem?_set_ne hi] at h2
      exact h.obj i bi oi h1 h2
  · intro i j bi bj oi oj b' h1 h2 h3 h4 h5 h6 h7 h8
    have aux : ∀ {i : Nat} {oi : Obj}, (H.set id .gone)[i]? = some oi → oi.live = true → H[i]? = some oi := by
      intro i oi h3 h5
      by_cases hi : id = i
      · subst hi
        rcases Nat.lt_or_ge id H.length with h' | h'
        · rw [List.getElem?_set_self h'] at h3
          simp at h3; subst h3; cases h5
        · rw [List.getElem?_eq_none (by simpa using h')] at h3; cases h3
      · rw [List.getElem?_set_ne hi] at h3; exact h3
    exact h.dist i j bi bj oi oj b' h1 h2 (aux h3 h5) (aux h4 h6) h5 h6 h7 h8
  · intro i bi oi b' j h1 h2 h3 h4
    by_cases hi : id = i
    · subst hi
      rcases Nat.lt_or_ge id H.length with h' | h'
      · rw [List.getElem?_set_self h'] at h2
        simp at h2; subst h2; cases h3
      · rw [List.getElem?_eq_none (by simpa using h')] at h2; cases h2
    · rw [List.getElem?_set_ne hi] at h2
      exact h.disj i bi oi b' j h1 h2 h3 h4

/-! ### With the frame -/
variable {g : G}

theorem StH.same (h : StH g H M env w) (hw : w'.heap = w.heap) (so : SoR w w' := by first | exact ⟨rfl, rfl, rfl⟩ | assumption) : StH g H M env w' where
  ext := h.ext
  sim := h.sim.same hw
  frame := ⟨by rw [hw]; exact h.frame.hs, fun b h1 h2 => by rw [hw]; exact h.frame.fr b h1 h2, h.frame.newb, h.frame.newM, h.frame.so.trans so⟩

theorem prefix_len {α : Type} {l l' : List α} (h : l <+: l') : l.length ≤ l'.length := h.length_le

theorem StH.push (h : StH g H M env w) {ob : Go.Obj} {blk : Blk} {o : Obj} (hw : w'.heap = w.heap.push ob) (hb : blk.b = some w.heap.size)
    (ho : ObjR M (env ++ [blk]) w' blk o) (so : SoR w w' := by first | exact ⟨rfl, rfl, rfl⟩ | assumption) : StH g (H ++ [o]) M (env ++ [blk]) w' where
  ext := h.ext.trans (Ext.push _ _ _)
  sim := h.sim.push hw hb ho
  frame := by
    have hs := h.frame.hs
    refine ⟨by rw [hw]; simp; omega, fun b h1 h2 => ?_, fun i bi b h1 h2 h3 => ?_, h.frame.newM, h.frame.so.trans so⟩
    · rw [hw, Array.getElem?_push_lt (by omega), ← Array.getElem?_eq_getElem]; exact h.frame.fr b h1 h2
    · rcases append_get_new h1 with ⟨h1, _⟩ | ⟨_, rfl⟩
      · exact h.frame.newb i bi b h1 h2 h3
      · rw [hb] at h3; simp at h3; exact .inl (by omega)

theorem StH.virt (h : StH g H M env w) {blk : Blk} (hb : blk.b = none) : StH g (H ++ [.rows []]) M (env ++ [blk]) w where
  ext := h.ext.trans (Ext.push _ _ _)
  sim := h.sim.virt hb
  frame := ⟨h.frame.hs, h.frame.fr, fun i bi b h1 h2 h3 => by
    rcases append_get_new h1 with ⟨h1, _⟩ | ⟨_, rfl⟩
    · exact h.frame.newb i bi b h1 h2 h3
    · (rw [hb] at h3; cases h3), h.frame.newM, h.frame.so⟩

theorem StH.set (h : StH g H M env w) {id : Nat} {blk : Blk} {o o' : Obj} {b : Nat} (he : env[id]? = some blk) (ho : H[id]? = some o) (hlv : o.live = true) (hb : blk.b = some b)
    (hs : w'.heap.size = w.heap.size) (hold : ∀ b', b' ≠ b → w'.heap[b']? = w.heap[b']?) (ho' : ObjR M env w' blk o') (so : SoR w w' := by first | exact ⟨rfl, rfl, rfl⟩ | assumption) : StH g (H.set id o') M env w' where
  ext := h.ext
  sim := h.sim.set he ho hlv hb hs hold ho'
  frame := by
    refine ⟨by rw [hs]; exact h.frame.hs, fun b' h1 h2 => ?_, h.frame.newb, h.frame.newM, h.frame.so.trans so⟩
    rw [hold b' (fun hbb => ?_)]
    · exact h.frame.fr b' h1 h2
    · subst hbb
      rcases Nat.lt_or_ge id g.env0.length with hid | hid
      · have := prefix_get h.ext.2 (List.getElem?_eq_getElem hid)
        rw [he] at this
        simp at this
        exact h2 blk (this ▸ List.getElem_mem hid) hb
      · rcases h.frame.newb id blk b' he hid hb with h3 | ⟨bl, h3, h4⟩
        · omega
        · exact h2 bl h3 h4

/-- One object more, in a block that is nobody's. -/
theorem SimH.add (h : SimH M env H w) {blk : Blk} {o : Obj} {b : Nat} (hb : blk.b = some b) (hlt : b < w.heap.size)
    (hfree : ∀ (i : Nat) (bi : Blk) (oi : Obj), env[i]? = some bi → H[i]? = some oi → oi.live = true → bi.b ≠ some b) (hm : ∀ j, M b j = none) (ho : ObjR M (env ++ [blk]) w blk o) :
    SimH M (env ++ [blk]) (H ++ [o]) w := by
  have hl := h.len
  refine ⟨by simp [h.len], ?_, ?_, h.mem, ?_, ?_⟩
  · intro i bi oi h1 h2
    rcases append_get_new h1 with ⟨q1, hi⟩ | ⟨hi, e1⟩ <;> rcases append_get_new h2 with ⟨q2, hj⟩ | ⟨hj, e2⟩ <;> try omega
    · exact (h.obj i bi oi q1 q2).mono (Ext.push _ _ _) (fun _ b _ => rfl)
    · rw [e1, e2]; exact ho
  · intro i j bi bj oi oj b' h1 h2 h3 h4 h5 h6 h7 h8
    rcases append_get_new h1 with ⟨q1, hi⟩ | ⟨hi, e1⟩ <;> rcases append_get_new h2 with ⟨q2, hj⟩ | ⟨hj, e2⟩ <;>
      rcases append_get_new h3 with ⟨q3, hi'⟩ | ⟨hi', e3⟩ <;> rcases append_get_new h4 with ⟨q4, hj'⟩ | ⟨hj', e4⟩ <;> try omega
    · exact h.dist i j bi bj oi oj b' q1 q2 q3 q4 h5 h6 h7 h8
    · rw [e2, hb] at h8; simp at h8; subst h8
      exact absurd h7 (hfree i bi oi q1 q3 h5)
    · rw [e1, hb] at h7; simp at h7; subst h7
      exact absurd h8 (hfree j bj oj q2 q4 h6)
  · intro i bi oi b' j h1 h2 h3 h4
    rcases append_get_new h1 with ⟨q1, hi⟩ | ⟨hi, e1⟩ <;> rcases append_get_new h2 with ⟨q2, hj⟩ | ⟨hj, e2⟩ <;> try omega
    · exact h.disj i bi oi b' j q1 q2 h3 h4
    · rw [e1, hb] at h4; simp at h4; subst h4; exact hm j
  · intro i bi b' h1 h2
    rcases append_get_new h1 with ⟨q1, hi⟩ | ⟨hi, e1⟩
    · exact h.lt i bi b' q1 h2
    · rw [e1, hb] at h2; simp at h2; subst h2; exact hlt

/-- An object goes on under another number, in its block. -/
theorem StH.reuse (h : StH g H M env w) {id : Nat} {blk blk' : Blk} {o o' : Obj} {b : Nat} (he : env[id]? = some blk) (ho : H[id]? = some o) (hlv : o.live = true) (hb : blk.b = some b) (hb' : blk'.b = some b)
    (hs : w'.heap.size = w.heap.size) (hold : ∀ b', b' ≠ b → w'.heap[b']? = w.heap[b']?) (ho' : ObjR M (env ++ [blk']) w' blk' o') (so : SoR w w' := by first | exact ⟨rfl, rfl, rfl⟩ | assumption) : StH g (H.set id .gone ++ [o']) M (env ++ [blk']) w' := by
  have h1 := h.set (o' := .gone) he ho hlv hb hs hold trivial so
  refine ⟨h1.ext.trans (Ext.push _ _ _), h1.sim.add hb' (by rw [hs]; exact h.sim.lt id blk b he hb) ?_ (fun j => h.sim.disj id blk o b j he ho hlv hb) ho', ?_⟩
  · intro i bi oi q1 q2 q3 q4
    by_cases hi : id = i
    · subst hi
      rw [List.getElem?_set_self (by
        rcases Nat.lt_or_ge id H.length with h' | h'
        · exact h'
        · rw [List.getElem?_eq_none h'] at ho; cases ho)] at q2
      simp at q2; subst q2; cases q3
    · rw [List.getElem?_set_ne hi] at q2
      exact hi (h.sim.dist id i blk bi o oi b he q1 ho q2 hlv q3 hb q4)
  · refine ⟨h1.frame.hs, h1.frame.fr, fun i bi b' q1 q2 q3 => ?_, h1.frame.newM, h1.frame.so⟩
    rcases append_get_new q1 with ⟨q1, _⟩ | ⟨_, rfl⟩
    · exact h1.frame.newb i bi b' q1 q2 q3
    · rw [hb'] at q3; simp at q3; subst q3
      rcases Nat.lt_or_ge id g.env0.length with hid | hid
      · have := prefix_get h.ext.2 (List.getElem?_eq_getElem hid)
        rw [he] at this
        simp at this
        exact .inr ⟨blk, this ▸ List.getElem_mem hid, hb⟩
      · exact h.frame.newb id blk b he hid hb

theorem StH.kill (h : StH g H M env w) (id : Nat) : StH g (H.set id .gone) M env w := ⟨h.ext, h.sim.kill id, h.frame⟩
end Go.Ab
/-
  Structs as cells; what is known of types.
-/
namespace Go.Ab
variable {M : Mem} {env : List Blk} {H : Heap} {w w' : World} {Pr : Program}

theorem RdP.agg_list {cs : List P} {vs : List Value} (hl : cs.length = vs.length) (h : ∀ (i : Nat) (c : P) (x : Value), cs[i]? = some c → vs[i]? = some x → RdP M c x) :
    RdP M (.agg cs) (.agg vs.toArray) := .agg (by simpa using hl) (fun i c x h1 h2 => h i c x h1 (by simpa using h2))
theorem RdD.agg_list {cs : List D} {vs : List Value} (h : RdL M env cs vs) : RdD M env (.agg cs) (.agg vs.toArray) :=
  .agg (by simpa using h.1) (fun i c x h1 h2 => h.2 i c x h1 (by simpa using h2))
theorem RdL.of_p {xs : List P} {vs : List Value} (hl : xs.length = vs.length) (h : ∀ (i : Nat) (c : P) (x : Value), xs[i]? = some c → vs[i]? = some x → RdP M c x) :
    RdL M env (xs.map .p) vs := ⟨by simpa using hl, fun i d x h1 h2 => by
      simp only [List.getElem?_map, Option.map_eq_some_iff] at h1
      obtain ⟨c, hc, rfl⟩ := h1
      exact .p (h i c x hc h2)⟩
theorem RdL.to_p {xs : List P} {vs : List Value} (h : RdL M env (xs.map .p) vs) : xs.length = vs.length ∧ ∀ (i : Nat) (c : P) (x : Value), xs[i]? = some c → vs[i]? = some x → RdP M c x :=
  ⟨by simpa using h.1, fun i c x h1 h2 => by
    have := h.2 i (.p c) x (by simp [h1]) h2
    cases this with | p h => exact h⟩

theorem allP_some {ds : List D} {xs : List P} (h : allP ds = some xs) : ds = xs.map .p := by
  induction ds generalizing xs with
  | nil => simp [allP] at h; subst h; rfl
  | cons d ds ih =>
    cases d with
    | p x =>
      simp only [allP] at h
      cases hq : allP ds with
      | none => rw [hq] at h; cases h
      | some ys => rw [hq] at h; simp at h; subst h; rw [ih hq]; rfl
    | _ => simp [allP] at h
theorem RdD_mkAgg {ds : List D} {vs : List Value} (h : RdL M env ds vs) : RdD M env (mkAgg ds) (.agg vs.toArray) := by
  unfold mkAgg
  cases hq : allP ds with
  | none => exact RdD.agg_list h
  | some xs =>
    rw [allP_some hq] at h
    exact .p (RdP.agg_list h.to_p.1 h.to_p.2)

theorem RdL_cellsOf {d : D} {v : Value} {cs : List D} (h : RdD M env d v) (hc : cellsOf d = some cs) : RdL M env cs v.cells.toList := by
  cases h with
  | p h =>
    cases h with
    | undef => simp [cellsOf] at hc
    | agg hl h =>
      simp [cellsOf] at hc; subst hc
      exact RdL.of_p (by simpa [Value.cells] using hl) (fun i c x h1 h2 => h i c x h1 (by simpa [Value.cells] using h2))
    | v =>
      simp only [cellsOf] at hc
      cases ho : v.oneCell' with
      | false => rw [ho] at hc; simp at hc
      | true =>
        rw [ho] at hc; simp at hc; subst hc
        cases v <;> first | (simp [Value.oneCell'] at ho; done) | exact .cons (.p .v) .nil
    | nil => simp [cellsOf] at hc; subst hc; exact .cons (.p .nil) .nil
    | int => simp [cellsOf] at hc; subst hc; exact .cons (.p .int) .nil
    | bool => simp [cellsOf] at hc; subst hc; exact .cons (.p .bool) .nil
    | str h => simp [cellsOf] at hc; subst hc; exact .cons (.p (.str h)) .nil
    | lstNil => simp [cellsOf] at hc; subst hc; exact .cons (.p .lstNil) .nil
    | lstE => simp [cellsOf] at hc; subst hc; exact .cons (.p .lstE) .nil
    | lst h1 h2 h3 h4 => simp [cellsOf] at hc; subst hc; exact .cons (.p (.lst h1 h2 h3 h4)) .nil
    | vptr h1 h2 => simp [cellsOf] at hc; subst hc; exact .cons (.p (.vptr h1 h2)) .nil
    | iface h => simp [cellsOf] at hc; subst hc; exact .cons (.p (.iface h)) .nil
  | ptr h hb => simp [cellsOf] at hc; subst hc; exact .cons (.ptr h hb) .nil
  | ownNil h hb hk h' => simp [cellsOf] at hc; subst hc; exact .cons (.ownNil h hb hk h') .nil
  | own h hb hk ho hl hn h' => simp [cellsOf] at hc; subst hc; exact .cons (.own h hb hk ho hl hn h') .nil
  | mp h hb => simp [cellsOf] at hc; subst hc; exact .cons (.mp h hb) .nil
  | box h hb hM => simp [cellsOf] at hc; subst hc; exact .cons (.box h hb hM) .nil
  | agg hl h => simp [cellsOf] at hc; subst hc; exact ⟨by simpa [Value.cells] using hl, fun i c x h1 h2 => h i c x h1 (by simpa [Value.cells] using h2)⟩
  | tup hl h => simp [cellsOf] at hc
  | fn a b c d => simp [cellsOf] at hc; subst hc; exact .cons (.fn a b c d) .nil
  | iface h => simp [cellsOf] at hc; subst hc; exact .cons (.iface h) .nil

theorem oneCell_of {d : D} {v : Value} (h : RdD M env d v) (ho : isOne d = true) : v.oneCell' = true := by
  cases h with
  | p h => cases h <;> first | rfl | (simp [isOne] at ho; done) | exact ho
  | _ => first | rfl | (simp [isOne] at ho; done)

theorem tyOf_spec {t : TypeId} {ti : TI} (h : tyOf Pr t = some ti) :
    ∃ i d z, Pr.info? t = some i ∧ Pr.underlying t = some d ∧ i.zero = some z ∧ ti = ⟨tkOf d, i.size, i.bytes, constP z⟩ := by
  unfold tyOf at h
  split at h
  · cases h
  · rename_i i hi
    split at h
    · cases h
    · rename_i d hd
      split at h
      · cases h
      · rename_i z hz
        simp at h
        exact ⟨i, d, z, hi, hd, hz, h.symm⟩

theorem run_typeInfo {t : TypeId} {i : TypeInfo} (h : Pr.info? t = some i) (w : World) : (typeInfo t).run Pr w = .ok i w := by simp [typeInfo, h]
theorem run_sizeOf {t : TypeId} {i : TypeInfo} (h : Pr.info? t = some i) (w : World) : (sizeOf t).run Pr w = .ok i.size w := by simp [sizeOf, run_typeInfo h]
theorem run_zeroValue {t : TypeId} {i : TypeInfo} {z : Value} (h : Pr.info? t = some i) (hz : i.zero = some z) (w : World) : (zeroValue t).run Pr w = .ok z w := by
  simp [zeroValue, run_typeInfo h, hz]
theorem run_isAgg {t : TypeId} {d : TypeDesc} (h : Pr.underlying t = some d) (w : World) : (isAgg t).run Pr w = .ok (tkOf d).isAgg w := by
  unfold isAgg
  simp only [Sem.run_bind, run_underlying h, Result.andThen_ok]
  cases d <;> rfl

theorem RdP_constP0 (v : Value) : RdP M (constP0 v) v := by
  unfold constP0
  split
  · exact .int
  · exact .bool
  · exact .str rfl
  · exact .nil
  · exact .v
theorem RdP_constP (v : Value) : RdP M (constP v) v := by
  unfold constP
  split
  · rename_i vs
    refine .agg (by simp) (fun i c x h1 h2 => ?_)
    have h2' : vs.toList[i]? = some x := by simpa using h2
    simp only [List.getElem?_map, h2', Option.map_some, Option.some.injEq] at h1
    rw [← h1]
    exact RdP_constP0 x
  · exact RdP_constP0 v

theorem addr_add (b o n : Nat) : (⟨b, o, none⟩ : Addr).add n = ⟨b, o + n, none⟩ := by
  unfold Addr.add
  split
  · subst_vars; rfl
  · rfl

/-- Reading so many cells, or one. -/
theorem run_loadVar_cells {t : TypeId} {i : TypeInfo} {d : TypeDesc} (hi : Pr.info? t = some i) (hd : Pr.underlying t = some d) (ha : (tkOf d).isAgg = true) {b o : Nat} {vs : List Value}
    (hl : vs.length = i.size) (h : ∀ j x, vs[j]? = some x → w.cell? ⟨b, o + j, none⟩ = some x) : (loadVar t ⟨b, o, none⟩).run Pr w = .ok (.agg vs.toArray) w := by
  unfold loadVar
  simp only [Sem.run_bind, run_isAgg hd, Result.andThen_ok, ha, if_true, run_sizeOf hi]
  rw [← hl, run_loadCells_list w ⟨b, o, none⟩ vs (fun j v hv => by rw [addr_add]; exact h j v hv)]
  rfl
theorem run_loadVar_one {t : TypeId} {d : TypeDesc} (hd : Pr.underlying t = some d) (ha : (tkOf d).isAgg = false) {b o : Nat} {x : Value}
    (h : w.cell? ⟨b, o, none⟩ = some x) : (loadVar t ⟨b, o, none⟩).run Pr w = .ok x w := by
  unfold loadVar
  simp only [Sem.run_bind, run_isAgg hd, Result.andThen_ok, ha, Bool.false_eq_true, if_false, run_load, h]
end Go.Ab
/-
  What each operation does to the abstract state (definitions).
-/
namespace Go.Ab

def undefD : D := .p .undef
def i64 (n : Int) : D := .p (.int .i64 n)
def boolD (b : Bool) : D := .p (.bool b)
def maxS : Nat := 4611686018427387904
def maxRoom : Nat := 140737488355328

def opLoad (ti : TI) (d : D) (H : Heap) : OV :=
  match d with
  | .ptr id r off => match nth H id with
    | some (.rows rs) => match nth rs r with
      | some row => ovOfRow ti row off H
      | none => .bad
    | _ => .bad
  | .p (.vptr row off) => ovOfRowP ti row off H
  | _ => .bad

def opStoreCells (ti : TI) (id r off : Nat) (rs : List (List D)) (row : List D) (cs : List D) (H : Heap) : OV :=
  bif cs.length == ti.size then
    match putCells row off cs with
    | some row' => .val undefD (setN H id (.rows (setN rs r row')))
    | none => .bad
  else .bad
def opStore (ti : TI) (d x : D) (H : Heap) : OV :=
  match d with
  | .ptr id r off => match nth H id with
    | some (.rows rs) => match nth rs r with
      | some row => match cellsOf x with
        | some cs => opStoreCells ti id r off rs row cs H
        | none => .bad
      | none => .bad
    | _ => .bad
  | _ => .bad

def opNew (cs : Option (List D)) (H : Heap) : OV :=
  match cs with
  | some cs => .val (.ptr H.length 0 0) (H ++ [.rows [cs]])
  | none => .bad

/-- The rows of a slice. -/
def rowsD (d : D) (H : Heap) : Option (List (List D)) :=
  match d with
  | .p .nil => some []
  | .p (.lst rows) => some (rows.map (·.map D.p))
  | .own id _ start len _ => match nth H id with
    | some (.rows rs) => some ((rs.drop start).take len)
    | _ => none
  | _ => none
def lenD : D → Option Nat
  | .p .nil => some 0
  | .p (.lst rows) => some rows.length
  | .own _ _ _ len _ => some len
  | _ => none
def rowAt (rows : List (List P)) (n : Nat) : List P := rows.getD n []

/-- The bytes of rows of one byte each. -/
def byteOfD : List D → Option UInt8
  | [.p (.int .u8 n)] => some (UInt8.ofNat n.toNat)
  | _ => none
def bytesOfD : List (List D) → Option (List UInt8)
  | [] => some []
  | r :: rs => match byteOfD r with
    | none => none
    | some b => match bytesOfD rs with
      | none => none
      | some bs => some (b :: bs)
def byteRow (b : UInt8) : List P := [.int .u8 b.toNat]
def byteRowD (b : UInt8) : List D := [.p (.int .u8 b.toNat)]

def opIndexAddr (tk : TK) (size : Nat) (x i : D) (H : Heap) : OV :=
  match tk, x, i with
  | .slice _, .p (.lst rows), .p (.int _ i) =>
    .pre (0 ≤ i ∧ i < rows.length ∧ (rowAt rows i.toNat).length = size) (.val (.p (.vptr (rowAt rows i.toNat) 0)) H)
  | .slice _, .own id k start len _, .p (.int _ i) =>
    bif k == size then .pre (0 ≤ i ∧ i < len) (.val (.ptr id (start + i.toNat) 0) H) else .bad
  | .array n _, .ptr id r off, .p (.int _ i) => .pre (0 ≤ i ∧ i < n) (.val (.ptr id r (off + i.toNat * size)) H)
  | .array n _, .p (.vptr row off), .p (.int _ i) => .pre (0 ≤ i ∧ i < n) (.val (.p (.vptr row (off + i.toNat * size))) H)
  | _, _, _ => .bad

def opIndex (ti : TI) (ei : Option TI) (x i : D) (H : Heap) : OV :=
  match ti.tk, x, i with
  | .str, .p (.str l), .p (.int _ i) => .pre (0 ≤ i ∧ i < l.length) (.val (.p (.int .u8 ((l.getD i.toNat 0).toNat))) H)
  | .array n _, .p (.agg cs), .p (.int _ i) => match ei with
    | some ei => .pre (0 ≤ i ∧ i < n) (ovOfRowP ei cs (i.toNat * ei.size) H)
    | none => .bad
  | _, _, _ => .bad

def fieldOf (tk : TK) (f : Nat) : Option (Nat × TypeId) :=
  match tk with
  | .struct fs => nth fs f
  | _ => none
def opFieldAddr (f : Option (Nat × TypeId)) (fi : Option TI) (x : D) (H : Heap) : OV :=
  match f, fi, x with
  | some (o, _), some fi, .ptr id r off => bif fi.size == 0 then .bad else .val (.ptr id r (off + o)) H
  | some (o, _), some fi, .p (.vptr row off) => bif fi.size == 0 then .bad else .val (.p (.vptr row (off + o))) H
  | _, _, _ => .bad
def opField (f : Option (Nat × TypeId)) (fi : Option TI) (x : D) (H : Heap) : OV :=
  match f, fi, x with
  | some (o, _), some fi, .p (.agg cs) => ovOfRowP fi cs o H
  | some (o, _), some fi, .agg cs => ovOfRow fi cs o H
  | _, _, _ => .bad

def intBin (op : BinOp) (k : IntKind) (a b : Int) (H : Heap) : OV :=
  match op with
  | .add => .val (.p (.int k (k.wrap (a + b)))) H
  | .sub => .val (.p (.int k (k.wrap (a - b)))) H
  | .mul => .val (.p (.int k (k.wrap (a * b)))) H
  | .quo => .pre (b ≠ 0) (.val (.p (.int k (k.wrap (a.tdiv b)))) H)
  | .rem => .pre (b ≠ 0) (.val (.p (.int k (a.tmod b))) H)
  | .and => .val (.p (.int k (k.wrap (BitVec.ofInt k.bits a &&& BitVec.ofInt k.bits b).toNat))) H
  | .or => .val (.p (.int k (k.wrap (BitVec.ofInt k.bits a ||| BitVec.ofInt k.bits b).toNat))) H
  | .xor => .val (.p (.int k (k.wrap (BitVec.ofInt k.bits a ^^^ BitVec.ofInt k.bits b).toNat))) H
  | .andNot => .val (.p (.int k (k.wrap (BitVec.ofInt k.bits a &&& ~~~(BitVec.ofInt k.bits b)).toNat))) H
  | .eql => .val (boolD (decide (a = b))) H
  | .neq => .val (boolD (!decide (a = b))) H
  | .lss => .val (boolD (decide (a < b))) H
  | .leq => .val (boolD (decide (a ≤ b))) H
  | .gtr => .val (boolD (decide (b < a))) H
  | .geq => .val (boolD (decide (b ≤ a))) H
  | _ => .bad
def shiftBin (op : BinOp) (k : IntKind) (a b : Int) (H : Heap) : OV :=
  match op with
  | .shl => .pre (0 ≤ b) (.val (.p (.int k (k.wrap (a * 2 ^ (min b.toNat k.bits))))) H)
  | .shr => .pre (0 ≤ b) (.val (.p (.int k (a.fdiv (2 ^ (min b.toNat k.bits))))) H)
  | _ => .bad
def isShift : BinOp → Bool
  | .shl => true
  | .shr => true
  | _ => false
def strLt (x y : List UInt8) : Bool := Op.bytesLess x y
def strBin (op : BinOp) (x y : List UInt8) (H : Heap) : OV :=
  match op with
  | .add => .pre (x.length + y.length ≤ maxS) (.val (.p (.str (x ++ y))) H)
  | .eql => .val (boolD (decide (x = y))) H
  | .neq => .val (boolD (!decide (x = y))) H
  | .lss => .val (boolD (strLt x y)) H
  | .leq => .val (boolD (strLt x y || decide (x = y))) H
  | .gtr => .val (boolD (!(strLt x y || decide (x = y)))) H
  | .geq => .val (boolD (!strLt x y)) H
  | _ => .bad
def boolBin (op : BinOp) (a b : Bool) (H : Heap) : OV :=
  match op with
  | .eql => .val (boolD (a == b)) H
  | .neq => .val (boolD (!(a == b))) H
  | _ => .bad
def nilBin (op : BinOp) (e : Bool) (H : Heap) : OV :=
  match op with
  | .eql => .val (boolD e) H
  | .neq => .val (boolD (!e)) H
  | _ => .bad
def opBin (op : BinOp) (tk : TK) (x y : D) (H : Heap) : OV :=
  match x, y with
  | .p (.int k a), .p (.int k' b) => bif isShift op then shiftBin op k a b H else (if k = k' then intBin op k a b H else .bad)
  | .p (.str a), .p (.str b) => strBin op a b H
  | .p (.bool a), .p (.bool b) => match tk with
    | .bool => boolBin op a b H
    | _ => .bad
  | .ptr _ _ _, .p (.v (.pointer none)) => match tk with
    | .ptr _ => nilBin op false H
    | _ => .bad
  | .p (.vptr _ _), .p (.v (.pointer none)) => match tk with
    | .ptr _ => nilBin op false H
    | _ => .bad
  | .p (.v (.pointer none)), .p (.v (.pointer none)) => match tk with
    | .ptr _ => nilBin op true H
    | _ => .bad
  | _, _ => .bad

/-- Structs compared: cells that are numbers, texts or truths. -/
def cellEq (tk : TK) (a b : P) : Option Bool :=
  match tk, a, b with
  | .bool, .bool x, .bool y => some (x == y)
  | .int _, .int k x, .int k' y => if k = k' then some (decide (x = y)) else none
  | .str, .str x, .str y => some (decide (x = y))
  | _, _, _ => none
def fieldsEq (Pr : Program) (cs es : List P) : List (Nat × TypeId) → Option Bool
  | [] => some true
  | (o, ft) :: fs => match tyOf Pr ft with
    | none => none
    | some ti => match nth cs o with
      | none => none
      | some a => match nth es o with
        | none => none
        | some b => match cellEq ti.tk a b with
          | none => none
          | some e => match fieldsEq Pr cs es fs with
            | none => none
            | some r => some (e && r)
/-- A struct type that '==' takes field by field. -/
def aggPlain (Pr : Program) (t : TypeId) : Bool := !Pr.stoodInHeld t && (!Pr.eqGuardType Pr.depth t && (match Pr.underlying t with | some (.struct fs) => fs.toList.all (fun f => f.name != "_") | _ => false))
def opAggEq (Pr : Program) (t : TypeId) (tk : TK) (neg : Bool) (cs es : List P) (H : Heap) : OV :=
  match tk with
  | .struct fs => match fieldsEq Pr cs es fs with
    | some r => .pre (aggPlain Pr t = true) (.val (boolD (bif neg then !r else r)) H)
    | none => .bad
  | _ => .bad
def aggArg (b : BinOp) (x y : D) : Option (Bool × List P × List P) :=
  match b, x, y with
  | .eql, .p (.agg cs), .p (.agg es) => some (false, cs, es)
  | .neq, .p (.agg cs), .p (.agg es) => some (true, cs, es)
  | _, _, _ => none
def opBinA (Pr : Program) (b : BinOp) (t : TypeId) (tk : TK) (x y : D) (H : Heap) : OV :=
  match aggArg b x y with
  | some (neg, cs, es) => opAggEq Pr t tk neg cs es H
  | none => opBin b tk x y H

def opUn (op : UnOp) (x : D) (H : Heap) : OV :=
  match op, x with
  | .not, .p (.bool b) => .val (boolD (!b)) H
  | .neg, .p (.int k n) => .val (.p (.int k (k.wrap (0 - n)))) H
  | .xor, .p (.int k n) => .val (.p (.int k (k.wrap (BitVec.ofInt k.bits (if k.signed then -1 else k.max) ^^^ BitVec.ofInt k.bits n).toNat))) H
  | _, _ => .bad

def opConvert (same : Bool) (src dst : TI) (dk sk : Option TK) (x : D) (H : Heap) : OV :=
  match src.tk, dst.tk, x with
  | _, .int k, .p (.int _ n) => .val (.p (.int k (k.wrap n))) H
  | _, .str, .p (.str l) => .val (.p (.str l)) H
  | _, .slice _, .p (.str l) => match dk with
    | some (.int .u8) => .val (.own H.length 1 0 l.length none) (H ++ [.rows (l.map byteRowD)])
    | _ => .bad
  | .slice _, .str, x => match sk, rowsD x H with
    | some (.int .u8), some rs => match bytesOfD rs with
      | some l => .pre (lenD x = some rs.length) (.val (.p (.str l)) H)
      | none => .bad
    | _, _ => .bad
  | .slice _, .slice _, .own id k start len cap => match same, dk, nth H id with
    | true, some (.int .u8), some (.rows _) => bif Nat.blt 0 len then .val (.own id k start len cap) H else .bad
    | _, _, _ => .bad
  | _, _, _ => .bad

def opExtract (x : D) (i : Nat) (H : Heap) : OV :=
  match x with
  | .tup ds => match nth ds i with
    | some d => .val d H
    | none => .bad
  | _ => .bad

def opNilCheck (x : D) (H : Heap) : OV :=
  match x with
  | .ptr id r o => .val (.ptr id r o) H
  | .p (.vptr row o) => .val (.p (.vptr row o)) H
  | .fn (.func f) a b => .val (.fn (.func f) a b) H
  | .iface t d => .val (.iface t d) H
  | _ => .bad

def opPick (c a b : D) (H : Heap) : OV :=
  match c with
  | .p (.bool true) => .val a H
  | .p (.bool false) => .val b H
  | _ => .bad

/-- Parts of a struct or an array laid over cells. -/
def fillD (place : Nat → Option (Nat × Nat)) : List D → List Nat → List D → Option (List D)
  | cells, [], [] => some cells
  | cells, i :: is, d :: ds => match place i, cellsOf d with
    | some (off, size), some cs => bif cs.length == size && Nat.ble (off + size) cells.length then
        match putCells cells off cs with
        | some cells' => fillD place cells' is ds
        | none => none
      else none
    | _, _ => none
  | _, _, _ => none
def placesS (Pr : Program) : List (Nat × TypeId) → Option (List (Nat × Nat))
  | [] => some []
  | (o, t) :: fs => match tyOf Pr t with
    | none => none
    | some ti => match placesS Pr fs with
      | none => none
      | some ps => some ((o, ti.size) :: ps)
def zeroCells (ti : TI) : Option (List D) := cellsOf (.p ti.zero)
def opBuild (Pr : Program) (ti : TI) (is : List Nat) (ds : List D) (H : Heap) : OV :=
  match zeroCells ti with
  | none => .bad
  | some zc => match ti.tk with
    | .struct fs => match placesS Pr fs with
      | some ps => match fillD (nth ps) zc is ds with
        | some cs => .val (mkAgg cs) H
        | none => .bad
      | none => .bad
    | .array _ e => match tyOf Pr e with
      | some ei => match fillD (fun i => some (i * ei.size, ei.size)) zc is ds with
        | some cs => .val (mkAgg cs) H
        | none => .bad
      | none => .bad
    | _ => .bad
/-- Parts of a slice literal. -/
def fillRows (size : Nat) : List (List D) → List Nat → List D → Option (List (List D))
  | rows, [], [] => some rows
  | rows, i :: is, d :: ds => match cellsOf d, nth rows i with
    | some cs, some _ => bif cs.length == size then fillRows size (setN rows i cs) is ds else none
    | _, _ => none
  | _, _, _ => none
def opBuildSlice (ei : TI) (len : Nat) (is : List Nat) (ds : List D) (H : Heap) : OV :=
  match zeroCells ei with
  | none => .bad
  | some zc => bif Nat.ble (len * ei.size) 16777216 && zc.length == ei.size && Nat.ble 1 ei.size then
    match fillRows ei.size (List.replicate len zc) is ds with
    | some rows => .val (.own H.length ei.size 0 len (some len)) (H ++ [.rows rows])
    | none => .bad
    else .bad

/-- The bounds of 's[lo:hi:max]'; 'len': where none is typed. -/
def bound (d : Option D) (dflt : Int) : Option Int :=
  match d with
  | none => some dflt
  | some (.p (.int _ n)) => some n
  | _ => none
def opSliceAt (tk : TK) (size : Nat) (x : D) (lo hi mx : Option D) (H : Heap) : OV :=
  match tk, x with
  | .str, .p (.str l) => match mx, bound lo 0, bound hi l.length with
    | none, some a, some b => .pre (0 ≤ a ∧ a ≤ b ∧ b ≤ l.length) (.val (.p (.str ((l.take b.toNat).drop a.toNat))) H)
    | _, _, _ => .bad
  | .slice _, .p .nil => match mx, bound lo 0, bound hi 0 with
    | none, some a, some b => .pre (0 ≤ a ∧ a ≤ b ∧ b ≤ 0) (.val (.p .nil) H)
    | _, _, _ => .bad
  | .slice _, .p (.lst rows) => match mx, bound lo 0, bound hi rows.length with
    | none, some a, some b => .pre (0 ≤ a ∧ a ≤ b ∧ b ≤ rows.length ∧ ∀ r ∈ rows, r.length = size) (.val (.p (.lst ((rows.take b.toNat).drop a.toNat))) H)
    | _, _, _ => .bad
  | .slice _, .own id k start len cap => bif k == size then
    match mx, bound lo 0, bound hi len with
    | none, some a, some b => .pre (0 ≤ a ∧ a ≤ b ∧ b ≤ len) (.val (.own id k (start + a.toNat) (b.toNat - a.toNat) (cap.map (· - a.toNat))) H)
    | some m, some a, some b => match bound (some m) 0, hi with
      | some c, some _ => .pre (0 ≤ a ∧ a ≤ b ∧ b ≤ c ∧ c ≤ len) (.val (.own id k (start + a.toNat) (b.toNat - a.toNat) (some (c.toNat - a.toNat))) H)
      | _, _ => .bad
    | _, _, _ => .bad
    else .bad
  | _, _ => .bad
def optD : Bool → List D → Option D × List D
  | true, d :: ds => (some d, ds)
  | _, ds => (none, ds)

def opMakeSlice (ei : TI) (len cap : D) (H : Heap) : OV :=
  match len, cap with
  | .p (.int _ n), .p (.int _ c) => match zeroCells ei with
    | none => .bad
    | some zc => bif zc.length == ei.size && Nat.ble 1 ei.size then
      .pre (0 ≤ n ∧ n ≤ c ∧ (ei.bytes : Int) * c ≤ maxRoom ∧ c ≤ maxS) (.val (.own H.length ei.size 0 n.toNat (some c.toNat)) (H ++ [.rows (List.replicate c.toNat zc)]))
      else .bad
  | _, _ => .bad

/-! ### Builtins -/
def opLen (tk : TK) (x : D) (H : Heap) : OV :=
  match tk, x with
  | .str, .p (.str l) => .val (i64 l.length) H
  | .array n _, _ => .val (i64 n) H
  | .slice _, d => match lenD d with
    | some n => .val (i64 n) H
    | none => .bad
  | .map _ _, .mp id => match nth H id with
    | some (.map es _ _) => .val (i64 es.length) H
    | _ => .bad
  | _, _ => .bad
def opCap (tk : TK) (x : D) (H : Heap) : OV :=
  match tk, x with
  | .slice _, .p .nil => .val (i64 0) H
  | .slice _, .own _ _ _ _ (some c) => .val (i64 c) H
  | _, _ => .bad
def opMinMax (mx : Bool) (ds : List D) (H : Heap) : OV :=
  match ds with
  | [.p (.int k a), .p (.int _ b)] => .val (.p (.int k (bif mx then (if b > a then b else a) else (if b < a then b else a)))) H
  | _ => .bad
/-- What is appended. -/
def appended (tk : TK) (x : D) (H : Heap) : Option (List (List D)) :=
  match tk, x with
  | .str, .p (.str l) => some (l.map byteRowD)
  | .slice _, d => rowsD d H
  | _, _ => none
def appLen (x : D) (xs : List (List D)) : Prop :=
  match x with
  | .own _ _ _ len _ => len = xs.length
  | _ => True
def onesAll (rows : List (List D)) : Bool := rows.all fun r => r.all isOne
def elemOK (ei : TI) : Bool :=
  match zeroCells ei with
  | some zc => zc.length == ei.size && Nat.ble 1 ei.size
  | none => false
def opAppendTo (ei : TI) (s : D) (xs : List (List D)) (H : Heap) : OV :=
  bif elemOK ei then
  match s with
  | .p .nil =>
    .pre (xs.length * ei.bytes ≤ maxRoom ∧ xs.length ≤ maxS ∧ (∀ r ∈ xs, r.length = ei.size))
      (.val (.own H.length ei.size 0 xs.length none) (H ++ [.rows xs]))
  | .own id k start len cap => match nth H id with
    | some (.rows rs) =>
      bif k == ei.size then
        .pre ((len + xs.length) * ei.bytes ≤ maxRoom ∧ len + xs.length ≤ maxS ∧ (∀ r ∈ xs, r.length = ei.size) ∧ (∀ r ∈ xs, ∀ d ∈ r, isOne d = true) ∧ start + len ≤ rs.length)
          (match cap with
            | none => .val (.own H.length ei.size 0 (len + xs.length) none) (setN H id .gone ++ [.rows ((rs.drop start).take len ++ xs)])
            | some c => if len + xs.length ≤ c then
                .val (.own id k start (len + xs.length) cap) (setN H id (.rows (rs.take (start + len) ++ xs ++ rs.drop (start + len + xs.length))))
              else .val (.own H.length ei.size 0 (len + xs.length) none) (H ++ [.rows ((rs.drop start).take len ++ xs)]))
      else .bad
    | _ => .bad
  | _ => .bad
  else .bad

/-- What is copied over the first rows of a slice of its own. -/
def opCopy (ei : TI) (s : D) (xs : List (List D)) (H : Heap) : OV :=
  match s with
  | .own id k start len _ => match nth H id with
    | some (.rows rs) => bif k == ei.size then
        .pre ((∀ r ∈ xs, r.length = ei.size) ∧ (∀ r ∈ xs, ∀ d ∈ r, isOne d = true) ∧ start + len ≤ rs.length)
          (.val (i64 (min xs.length len : Nat)) (setN H id (.rows (rs.take start ++ xs.take (min xs.length len) ++ rs.drop (start + min xs.length len)))))
      else .bad
    | _ => .bad
  | _ => .bad
def notStr : TK → Bool
  | .str => false
  | _ => true

/-! ### Maps -/
def keyEq : P → P → Option Bool
  | .int k a, .int k' b => if k = k' then some (decide (a = b)) else none
  | .str a, .str b => some (decide (a = b))
  | _, _ => none
def keyOk (tk : TK) (k : P) : Bool :=
  match tk, k with
  | .int k, .int k' _ => decide (k = k')
  | .str, .str _ => true
  | _, _ => false
def keysOk (tk : TK) (es : List (P × D)) : Prop := ∀ e ∈ es, keyOk tk e.1 = true
def isKey (k : P) (e : P × D) : Bool := keyEq k e.1 == some true
def lookE (es : List (P × D)) (k : P) : Option D :=
  match es with
  | [] => none
  | e :: es => bif isKey k e then some e.2 else lookE es k
def updE (es : List (P × D)) (k : P) (d : D) : List (P × D) :=
  match es with
  | [] => [(k, d)]
  | e :: es => bif isKey k e then (k, d) :: es else e :: updE es k d
def delE (es : List (P × D)) (k : P) : List (P × D) :=
  match es with
  | [] => []
  | e :: es => bif isKey k e then es else e :: delE es k
/-- The stamps of a map's entries, and its clock. -/
def updB (es : List (P × D)) (k : P) (bs : List Nat) (ck : Nat) : List Nat :=
  match lookE es k with
  | none => bs ++ [ck]
  | some _ => bs
def updC (es : List (P × D)) (k : P) (ck : Nat) : Nat :=
  match lookE es k with
  | none => ck + 1
  | some _ => ck
def delB (es : List (P × D)) (k : P) (bs : List Nat) : List Nat :=
  match es, bs with
  | e :: es, b :: bs => bif isKey k e then bs else b :: delB es k bs
  | _, bs => bs
def lookedUp (ok : Bool) (z : P) (r : Option D) (H : Heap) : OV :=
  match ok, r with
  | true, some d => .val (.tup [d, boolD true]) H
  | true, none => .val (.tup [.p z, boolD false]) H
  | false, some d => .val d H
  | false, none => .val (.p z) H
def opLookup (kk : TK) (z : P) (m : D) (k : D) (ok : Bool) (H : Heap) : OV :=
  match m, k with
  | .mp id, .p k => match nth H id with
    | some (.map es _ _) => .pre (keysOk kk es ∧ keyOk kk k = true) (lookedUp ok z (lookE es k) H)
    | _ => .bad
  | _, _ => .bad
def opMapUpdate (kk : TK) (m : D) (k x : D) (H : Heap) : OV :=
  match m, k with
  | .mp id, .p k => match nth H id with
    | some (.map es bs ck) => .pre (keysOk kk es ∧ keyOk kk k = true) (.val undefD (setN H id (.map (updE es k x) (updB es k bs ck) (updC es k ck))))
    | _ => .bad
  | _, _ => .bad
def opDelete (kk : TK) (m : D) (k : D) (H : Heap) : OV :=
  match m, k with
  | .mp id, .p k => match nth H id with
    | some (.map es bs ck) => .pre (keysOk kk es ∧ keyOk kk k = true) (.val (.tup []) (setN H id (.map (delE es k) (delB es k bs) ck)))
    | _ => .bad
  | _, _ => .bad

/-! ### All together -/
def withTI (o : Option TI) (f : TI → OV) : OV :=
  match o with
  | some ti => f ti
  | none => .bad
def elemTI (Pr : Program) (tk : TK) : Option TI :=
  match tk with
  | .slice e => tyOf Pr e
  | .array _ e => tyOf Pr e
  | _ => none
def elemS (Pr : Program) (tk : TK) : Option TI :=
  match tk with
  | .slice e => tyOf Pr e
  | _ => none
def keyTK (Pr : Program) (tk : TK) : Option TK :=
  match tk with
  | .map k _ => (tyOf Pr k).map (·.tk)
  | _ => none
def opBuiltin (Pr : Program) (b : Builtin) (ts : List TypeId) (ds : List D) (H : Heap) : OV :=
  match b with
  | .len => match ts, ds with
    | [t], [d] => withTI (tyOf Pr t) fun ti => opLen ti.tk d H
    | _, _ => .bad
  | .cap => match ts, ds with
    | [t], [d] => withTI (tyOf Pr t) fun ti => opCap ti.tk d H
    | _, _ => .bad
  | .min => opMinMax false ds H
  | .max => opMinMax true ds H
  | .append => match ts, ds with
    | [t, u], [s, x] => withTI (tyOf Pr t) fun ti => withTI (elemS Pr ti.tk) fun ei => withTI (tyOf Pr u) fun ui =>
      match appended ui.tk x H with
      | some xs => .pre (appLen x xs) (opAppendTo ei s xs H)
      | none => .bad
    | _, _ => .bad
  | .copy => match ts, ds with
    | [t, u], [s, x] => withTI (tyOf Pr t) fun ti => withTI (elemS Pr ti.tk) fun ei => withTI (tyOf Pr u) fun ui =>
      match appended ui.tk x H with
      | some xs => .pre (appLen x xs) (bif notStr ui.tk then opCopy ei s xs H else .bad)
      | none => .bad
    | _, _ => .bad
  | .delete => match ts, ds with
    | t :: _, [m, k] => withTI (tyOf Pr t) fun ti => match keyTK Pr ti.tk with
      | some kk => opDelete kk m k H
      | none => .bad
    | _, _ => .bad
  | _ => .bad
def opCallee (ds : List D) : OV :=
  match ds with
  | .fn (.func f) first cap :: args => .call f (first ++ args ++ cap)
  | _ => .bad

def opSlice3 (tk : TK) (size : Nat) (x : D) (lo hi : Option D) (mx : Option D × List D) (H : Heap) : OV := opSliceAt tk size x lo hi mx.1 H
def opSlice2 (tk : TK) (size : Nat) (x : D) (lo : Option D) (hi : Option D × List D) (m : Bool) (H : Heap) : OV := opSlice3 tk size x lo hi.1 (optD m hi.2) H
def opSlice1 (tk : TK) (size : Nat) (x : D) (lo : Option D × List D) (h m : Bool) (H : Heap) : OV := opSlice2 tk size x lo.1 (optD h lo.2) m H
def opSliceTI (Pr : Program) (tk : TK) (x : D) (lo : Option D × List D) (h m : Bool) (H : Heap) : OV :=
  match tk with
  | .slice e => withTI (tyOf Pr e) fun ei => opSlice1 (.slice e) ei.size x lo h m H
  | .str => opSlice1 .str 0 x lo h m H
  | _ => .bad

def opv (Pr : Program) (op : Op) (ds : List D) (H : Heap) : OV :=
  match op with
  | .move _ => match ds with
    | [d] => .val d H
    | _ => .bad
  | .assign _ => match ds with
    | [d] => .val d H
    | _ => .bad
  | .pick _ _ _ => match ds with
    | [c, a, b] => opPick c a b H
    | _ => .bad
  | .alloc t => withTI (tyOf Pr t) fun ti => opNew (cellsOf (.p ti.zero)) H
  | .box _ _ => match ds with
    | [d] => opNew (cellsOf d) H
    | _ => .bad
  | .build t parts => withTI (tyOf Pr t) fun ti => opBuild Pr ti (parts.toList.map (·.1)) ds H
  | .buildSlice t len parts => withTI (tyOf Pr t) fun ti => withTI (elemS Pr ti.tk) fun ei => opBuildSlice ei len (parts.toList.map (·.1)) ds H
  | .load t _ => match ds with
    | [d] => withTI (tyOf Pr t) fun ti => opLoad ti d H
    | _ => .bad
  | .store t _ _ => match ds with
    | [d, x] => withTI (tyOf Pr t) fun ti => opStore ti d x H
    | _ => .bad
  | .nilCheck _ => match ds with
    | [d] => opNilCheck d H
    | _ => .bad
  | .binOp b t _ _ _ => match ds with
    | [x, y] => withTI (tyOf Pr t) fun ti => opBinA Pr b t ti.tk x y H
    | _ => .bad
  | .unOp u _ _ => match ds with
    | [x] => opUn u x H
    | _ => .bad
  | .convert s d _ => match ds with
    | [x] => withTI (tyOf Pr s) fun si => withTI (tyOf Pr d) fun di => opConvert (s == d) si di ((elemTI Pr di.tk).map (·.tk)) ((elemTI Pr si.tk).map (·.tk)) x H
    | _ => .bad
  | .makeFunc f first _ => match takeN first.size ds with
    | some a => .val (.fn f a (dropN first.size ds)) H
    | none => .bad
  | .makeMap _ none => .val (.mp H.length) (H ++ [.map [] [] 0])
  | .makeSlice t _ _ => match ds with
    | [l, c] => withTI (tyOf Pr t) fun ti => withTI (elemS Pr ti.tk) fun ei => opMakeSlice ei l c H
    | _ => .bad
  | .slice t _ lo hi mx => match ds with
    | x :: ds => withTI (tyOf Pr t) fun ti => opSliceTI Pr ti.tk x (optD lo.isSome ds) hi.isSome mx.isSome H
    | _ => .bad
  | .fieldAddr t _ f => match ds with
    | [x] => withTI (tyOf Pr t) fun ti => match fieldOf ti.tk f with
      | some p => opFieldAddr (some p) (tyOf Pr p.2) x H
      | none => .bad
    | _ => .bad
  | .field t _ f => match ds with
    | [x] => withTI (tyOf Pr t) fun ti => match fieldOf ti.tk f with
      | some p => opField (some p) (tyOf Pr p.2) x H
      | none => .bad
    | _ => .bad
  | .indexAddr t _ _ => match ds with
    | [x, i] => withTI (tyOf Pr t) fun ti => withTI (elemTI Pr ti.tk) fun ei => opIndexAddr ti.tk ei.size x i H
    | _ => .bad
  | .index t _ _ => match ds with
    | [x, i] => withTI (tyOf Pr t) fun ti => opIndex ti (elemTI Pr ti.tk) x i H
    | _ => .bad
  | .lookup t _ _ ok => match ds with
    | [m, k] => withTI (tyOf Pr t) fun ti => match ti.tk with
      | .map kt et => withTI (tyOf Pr kt) fun ki => withTI (tyOf Pr et) fun ei => opLookup ki.tk ei.zero m k ok H
      | _ => .bad
    | _ => .bad
  | .mapUpdate t _ _ _ => match ds with
    | [m, k, x] => withTI (tyOf Pr t) fun ti => match keyTK Pr ti.tk with
      | some kk => opMapUpdate kk m k x H
      | none => .bad
    | _ => .bad
  | .extract _ i => match ds with
    | [x] => opExtract x i H
    | _ => .bad
  | .makeInterface t _ => match ds with
    | [x] => withTI (tyOf Pr t) fun ti => match ti.tk with
      | .iface => .bad
      | _ => .val (.iface t x) H
    | _ => .bad
  | .call c => match c.callee with
    | .builtin b => opBuiltin Pr b c.argTypes.toList ds H
    | .value _ => opCallee ds
    | .invoke _ _ => .bad
  | _ => .bad
end Go.Ab
/-
  Each operation does what the abstract machine says: reads and what makes new memory.
-/
namespace Go.Ab
variable {M : Mem} {env : List Blk} {H : Heap} {w w' : World} {Pr : Program} {g : G}

def OpOK (Pr : Program) (g : G) (M : Mem) (env : List Blk) (w : World) (r : Result Next) : OV → Prop
  | .val d H' => ∃ v w' M' env', (r = .ok (.value v) w' ∨ (r = .ok .skip w' ∧ v = undef)) ∧ Ext M env M' env' ∧ StH g H' M' env' w' ∧ RdD M' env' d v
  | .call f ds => ∃ vs : List Value, r = (callFunc f vs.toArray).run Pr w ∧ RdL M env ds vs
  | .pre p o => p → OpOK Pr g M env w r o
  | .bad => True

def asVal (s : Sem Value) : Sem Next := do pure (.value (← s))
def asUnit (s : Sem Unit) : Sem Next := do s; pure .skip
theorem run_asVal {s : Sem Value} {v : Value} {w' : World} (h : s.run Pr w = .ok v w') : (asVal s).run Pr w = .ok (.value v) w' := by simp [asVal, h]
theorem run_asUnit {s : Sem Unit} {w' : World} (h : s.run Pr w = .ok () w') : (asUnit s).run Pr w = .ok .skip w' := by simp [asUnit, h]

theorem OpOK.same {s : Sem Value} {v : Value} {d : D} (h : StH g H M env w) (hs : s.run Pr w = .ok v w) (hd : RdD M env d v) : OpOK Pr g M env w ((asVal s).run Pr w) (.val d H) :=
  ⟨v, w, M, env, .inl (run_asVal hs), Ext.refl _ _, h, hd⟩
theorem OpOK.move {s : Sem Value} {v : Value} {d : D} {H' : Heap} {env' : List Blk} (hs : s.run Pr w = .ok v w') (he : Ext M env M env') (h : StH g H' M env' w') (hd : RdD M env' d v) :
    OpOK Pr g M env w ((asVal s).run Pr w) (.val d H') := ⟨v, w', M, env', .inl (run_asVal hs), he, h, hd⟩
theorem OpOK.unit {s : Sem Unit} {H' : Heap} (hs : s.run Pr w = .ok () w') (h : StH g H' M env w') :
    OpOK Pr g M env w ((asUnit s).run Pr w) (.val undefD H') := ⟨undef, w', M, env, .inr ⟨run_asUnit hs, rfl⟩, Ext.refl _ _, h, .p .undef⟩

/-! ### Reading -/
theorem cells_list {cs : List D} {b : Nat} : ∀ {base : Nat}, (∀ (j : Nat) (d : D), cs[j]? = some d → ∃ x, w.cell? ⟨b, base + j, none⟩ = some x ∧ RdD M env d x) →
    ∃ vs : List Value, RdL M env cs vs ∧ ∀ (j : Nat) (x : Value), vs[j]? = some x → w.cell? ⟨b, base + j, none⟩ = some x := by
  induction cs with
  | nil => intro base _; exact ⟨[], .nil, fun j x h => by simp at h⟩
  | cons d cs ih =>
    intro base h
    obtain ⟨x, hx, hr⟩ := h 0 d rfl
    obtain ⟨vs, hvs, hc⟩ := ih (base := base + 1) (fun j d hj => by
      obtain ⟨x, hx, hr⟩ := h (j + 1) d (by simpa using hj)
      exact ⟨x, by rw [show base + 1 + j = base + (j + 1) by omega]; exact hx, hr⟩)
    refine ⟨x :: vs, .cons hr hvs, fun j y hj => ?_⟩
    cases j with
    | zero => simp at hj; subst hj; exact hx
    | succ j => rw [show base + (j + 1) = base + 1 + j by omega]; exact hc j y (by simpa using hj)
theorem RdD_p_agg {xs : List P} {vs : List Value} (h : RdL M env (xs.map .p) vs) : RdD M env (.p (.agg xs)) (.agg vs.toArray) := .p (RdP.agg_list h.to_p.1 h.to_p.2)

theorem obj_cells {id : Nat} {blk : Blk} {rs : List (List D)} {b : Nat} (h : SimH M env H w) (he : env[id]? = some blk) (ho : H[id]? = some (.rows rs)) (hb : blk.b = some b)
    {r : Nat} {row : List D} (hr : rs[r]? = some row) (j : Nat) (d : D) (hj : row[j]? = some d) : ∃ x, w.cell? ⟨b, blk.o + r * blk.k + j, none⟩ = some x ∧ RdD M env d x := by
  have := h.obj id blk _ he ho
  simp only [ObjR, hb] at this
  obtain ⟨c, e, fro, h1, h2, h3, h4, h5, h6⟩ := this
  obtain ⟨x, hx, hd⟩ := h5 r j row d hr hj
  exact ⟨x, by rw [cell_mk h1]; exact hx, hd⟩

/-- Nothing but read. -/
def SameOK (M : Mem) (env : List Blk) (H : Heap) (w : World) (r : Result Value) : OV → Prop
  | .val d H' => H' = H ∧ ∃ v, r = .ok v w ∧ RdD M env d v
  | .bad => True
  | _ => False
theorem SameOK.op {s : Sem Value} {o : OV} (h : StH g H M env w) (hs : SameOK M env H w (s.run Pr w) o) : OpOK Pr g M env w ((asVal s).run Pr w) o := by
  cases o with
  | val d H' => obtain ⟨rfl, v, h1, h2⟩ := hs; exact OpOK.same h h1 h2
  | bad => trivial
  | call _ _ => exact hs.elim
  | pre _ _ => exact hs.elim
theorem load_same {t : TypeId} {ti : TI} (ht : tyOf Pr t = some ti) (h : StH g H M env w) {d : D} {v : Value} (hd : RdD M env d v) :
    SameOK M env H w ((Instr.loadAt t v).run Pr w) (opLoad ti d H) := by
  obtain ⟨i, td, z, hi, hu, hz, rfl⟩ := tyOf_spec ht
  unfold opLoad
  cases hd with
  | ptr he hb =>
    rename_i id r off blk b
    simp only []
    split
    · rename_i rs hH
      rw [nth_eq] at hH
      split
      · rename_i row hrow
        rw [nth_eq] at hrow
        unfold ovOfRow
        have hc := obj_cells h.sim he hH hb hrow
        split
        · rename_i hagg
          split
          · rename_i cs hcs
            obtain ⟨rfl, hlen⟩ := takeN_eq hcs
            rw [dropN_eq] at hlen ⊢
            obtain ⟨vs, hvs, hcell⟩ := cells_list (w := w) (M := M) (env := env) (cs := List.take i.size (List.drop off row)) (b := b) (base := blk.o + r * blk.k + off) (fun j d hj => by
              rw [List.getElem?_take] at hj
              split at hj
              · rw [List.getElem?_drop] at hj
                obtain ⟨x, hx, hr⟩ := hc _ d hj
                exact ⟨x, by rw [Nat.add_assoc]; exact hx, hr⟩
              · cases hj)
            refine ⟨rfl, .agg vs.toArray, ?_, RdD_mkAgg hvs⟩
            show (loadVar t _).run Pr w = _
            exact run_loadVar_cells hi hu hagg (by have := hvs.1; have h3 : i.size ≤ _ := hlen; simp at this h3; omega) hcell
          · trivial
        · rename_i hagg
          split
          · rename_i d hd
            rw [nth_eq] at hd
            obtain ⟨x, hx, hr⟩ := hc off d hd
            refine ⟨rfl, x, ?_, hr⟩
            exact run_loadVar_one hu hagg hx
          · trivial
      · trivial
    · trivial
  | p hd =>
    cases hd with
    | vptr hM hR =>
      rename_i row off b o c
      simp only []
      unfold ovOfRowP
      have hc : ∀ (j : Nat) (p : P), row[j]? = some p → ∃ x, w.cell? ⟨b, o + j, none⟩ = some x ∧ RdP M p x := fun j p hj => ⟨c j, h.sim.mem _ _ _ (hM j p hj), hR j p hj⟩
      split
      · rename_i hagg
        split
        · rename_i cs hcs
          obtain ⟨rfl, hlen⟩ := takeN_eq hcs
          rw [dropN_eq] at hlen ⊢
          obtain ⟨vs, hvs, hcell⟩ := cells_list (w := w) (M := M) (env := env) (cs := (List.take i.size (List.drop off row)).map .p) (b := b) (base := o + off) (fun j d hj => by
            simp only [List.getElem?_map, Option.map_eq_some_iff] at hj
            obtain ⟨p, hj, rfl⟩ := hj
            rw [List.getElem?_take] at hj
            split at hj
            · rw [List.getElem?_drop] at hj
              obtain ⟨x, hx, hr⟩ := hc _ p hj
              exact ⟨x, by rw [Nat.add_assoc]; exact hx, .p hr⟩
            · cases hj)
          refine ⟨rfl, .agg vs.toArray, ?_, RdD_p_agg hvs⟩
          show (loadVar t _).run Pr w = _
          exact run_loadVar_cells hi hu hagg (by have := hvs.1; have h3 : i.size ≤ _ := hlen; simp at this h3; omega) hcell
        · trivial
      · rename_i hagg
        split
        · rename_i d hd
          rw [nth_eq] at hd
          obtain ⟨x, hx, hr⟩ := hc off d hd
          exact ⟨rfl, x, run_loadVar_one hu hagg hx, .p hr⟩
        · trivial
    | _ => trivial
  | _ => trivial

theorem load_ok {t : TypeId} {ti : TI} (ht : tyOf Pr t = some ti) (h : StH g H M env w) {d : D} {v : Value} (hd : RdD M env d v) :
    OpOK Pr g M env w ((asVal (Instr.loadAt t v)).run Pr w) (opLoad ti d H) := (load_same ht h hd).op h

/-! ### New memory -/
theorem heap_alloc_new {o : Go.Obj} : (w.alloc o).heap[w.heap.size]? = some o := by show (w.heap.push o)[w.heap.size]? = _; simp
theorem new_ok {e : TypeId} {v : Value} {cs : List D} (h : StH g H M env w) (hc : RdL M env cs v.cells.toList) :
    OpOK Pr g M env w ((asVal (do pure (.pointer (some (← newVar e v))))).run Pr w) (opNew (some cs) H) := by
  have hlen : cs.length = v.cells.size := by have := hc.1; simpa using this
  refine OpOK.move (v := .pointer (some ⟨w.heap.size, 0, none⟩)) (w' := w.alloc (.cells v.cells e)) (env' := env ++ [⟨some w.heap.size, 0, cs.length, cs.length⟩]) ?_ (Ext.push _ _ _) ?_ ?_
  · simp [newVar, newRow]
  · refine h.push (ob := .cells v.cells e) rfl rfl ?_
    refine ⟨v.cells, e, (0, 0), ?_, by simp [hlen], by simp, by simp, fun i j row d hi hj => ?_, .inl rfl⟩
    · exact heap_alloc_new
    · have : i = 0 := by
        rcases Nat.eq_zero_or_pos i with h0 | h0
        · exact h0
        · rw [List.getElem?_eq_none (by simp; omega)] at hi; cases hi
      subst this
      simp at hi; subst hi
      have hj' : j < v.cells.size := by
        rw [← hlen]
        rcases Nat.lt_or_ge j cs.length with h' | h'
        · exact h'
        · rw [List.getElem?_eq_none h'] at hj; cases hj
      refine ⟨v.cells[j], by simp [Array.getElem?_eq_getElem hj'], (hc.2 j d _ hj (by simp [Array.getElem?_eq_getElem hj'])).mono (Ext.push _ _ _)⟩
  · have := RdD.ptr (M := M) (env := env ++ [⟨some w.heap.size, 0, cs.length, cs.length⟩]) (id := H.length) (row := 0) (off := 0) (b := w.heap.size) (blk := ⟨some w.heap.size, 0, cs.length, cs.length⟩) (by rw [← h.sim.len]; simp) rfl
    simpa using this

theorem alloc_ok {t : TypeId} {ti : TI} (ht : tyOf Pr t = some ti) (h : StH g H M env w) :
    OpOK Pr g M env w ((asVal (Instr.alloc t true (.tuple #[]))).run Pr w) (opNew (cellsOf (.p ti.zero)) H) := by
  obtain ⟨i, td, z, hi, hu, hz, rfl⟩ := tyOf_spec ht
  cases hc : cellsOf (.p (constP z)) with
  | none => trivial
  | some cs =>
    have hr : RdL M env cs z.cells.toList := RdL_cellsOf (.p (RdP_constP z)) hc
    have := new_ok (Pr := Pr) (e := t) (v := z) h hr
    have heq : (asVal (Instr.alloc t true (.tuple #[]))).run Pr w = (asVal (do pure (.pointer (some (← newVar t z))))).run Pr w := by
      simp [asVal, Instr.alloc, run_zeroValue hi hz]
    rw [heq]; exact this
theorem box_ok {t : TypeId} (h : StH g H M env w) {d : D} {v : Value} (hd : RdD M env d v) :
    OpOK Pr g M env w ((asVal (Instr.box t v)).run Pr w) (opNew (cellsOf d) H) := by
  cases hc : cellsOf d with
  | none => trivial
  | some cs => exact new_ok (Pr := Pr) (e := t) (v := v) h (RdL_cellsOf hd hc)
end Go.Ab
/-
  Each operation does what the abstract machine says: writes.
-/
namespace Go.Ab
variable {M : Mem} {env : List Blk} {H : Heap} {w w' : World} {Pr : Program} {g : G}

theorem setCell_at {b o : Nat} {v : Value} {c : Array Value} {e : TypeId} {fro : Nat × Nat} (hb : w.heap[b]? = some (.cells c e fro)) :
    (w.setCell ⟨b, o, none⟩ v).heap[b]? = some (.cells (c.setIfInBounds o v) e fro) := by
  simp [World.setCell, Array.getElem?_modify, hb]
theorem setCell_ne {b o b' : Nat} {v : Value} (h : b' ≠ b) : (w.setCell ⟨b, o, none⟩ v).heap[b']? = w.heap[b']? := by
  have : b ≠ b' := fun e => h e.symm
  simp [World.setCell, Array.getElem?_modify, this]

theorem run_storeCells_arr {b o : Nat} {e : TypeId} {fro : Nat × Nat} : ∀ (vs : List Value) (i : Nat) (w : World) (c : Array Value), w.heap[b]? = some (.cells c e fro) → o + i + vs.length ≤ c.size →
    (∀ j, j < c.size → ¬ (fro.1 ≤ j ∧ j < fro.2)) → (∀ v ∈ vs, v.oneCell' = true) →
    ∃ (w' : World) (c' : Array Value), (storeCells ⟨b, o, none⟩ vs i).run Pr w = .ok () w' ∧ w'.heap.size = w.heap.size ∧ (∀ b', b' ≠ b → w'.heap[b']? = w.heap[b']?) ∧
      w'.heap[b]? = some (.cells c' e fro) ∧ c'.size = c.size ∧ (∀ j, c'[j]? = if o + i ≤ j ∧ j < o + i + vs.length then vs[j - (o + i)]? else c[j]?) ∧ SoR w w'
  | [], i, w, c, hb, _, _, _ => ⟨w, c, rfl, rfl, fun _ _ => rfl, hb, rfl, fun j => by rw [if_neg (by simp)], SoR.refl w⟩
  | v :: vs, i, w, c, hb, hl, hf, h1 => by
    have hlt : o + i < c.size := by simp at hl; omega
    have hst : (store ((⟨b, o, none⟩ : Addr).add i) v).run Pr w = .ok () (w.setCell ⟨b, o + i, none⟩ v) := by
      rw [addr_add, run_store Pr w _ v _ (h1 v (by simp))]
      have hc : w.cell? ⟨b, o + i, none⟩ = some c[o + i] := by rw [cell_mk hb]; exact Array.getElem?_eq_getElem hlt
      have hz : w.frozen? ⟨b, o + i, none⟩ = false := by
        unfold World.frozen?
        simp only [hb]
        have := hf (o + i) hlt
        simp only [Bool.and_eq_false_iff, decide_eq_false_iff_not]
        omega
      simp [hc, hz]
    obtain ⟨w', c', hr, hs, hne, hb', hsz, hget, hso⟩ := run_storeCells_arr (b := b) (o := o) (e := e) (fro := fro) vs (i + 1) (w.setCell ⟨b, o + i, none⟩ v) (c.setIfInBounds (o + i) v) (setCell_at hb)
      (by simp at hl ⊢; omega) (fun j hj => hf j (by simpa using hj)) (fun x hx => h1 x (by simp [hx]))
    refine ⟨w', c', ?_, by rw [hs]; simp, fun b' hb'' => by rw [hne b' hb'', setCell_ne hb''], hb', by rw [hsz]; simp, fun j => ?_, ⟨hso.1, hso.2.1, hso.2.2⟩⟩
    · simp only [storeCells, Sem.run_bind, hst, Result.andThen_ok]; exact hr
    · rw [hget j, Array.getElem?_setIfInBounds]
      by_cases h0 : o + i = j
      · subst h0
        rw [if_neg (by omega), if_pos rfl, if_pos hlt, if_pos (by simp)]
        simp
      · by_cases h2 : o + (i + 1) ≤ j ∧ j < o + (i + 1) + vs.length
        · rw [if_pos h2, if_pos (by simp; omega)]
          rw [show j - (o + i) = (j - (o + (i + 1))) + 1 by omega]
          simp
        · rw [if_neg h2, if_neg h0, if_neg (by simp; omega)]

theorem putCells_spec {row : List D} {off : Nat} {cs row' : List D} (h : putCells row off cs = some row') :
    row'.length = row.length ∧ off + cs.length ≤ max row.length off ∧ (cs ≠ [] → off + cs.length ≤ row.length) ∧ (∀ d ∈ cs, isOne d = true) ∧
      ∀ j, row'[j]? = if off ≤ j ∧ j < off + cs.length then cs[j - off]? else row[j]? := by
  induction row generalizing off cs row' with
  | nil =>
    cases cs with
    | nil => simp [putCells] at h; subst h; refine ⟨rfl, by simp, by simp, by simp, fun j => by simp⟩
    | cons c cs => simp [putCells] at h
  | cons x row ih =>
    cases cs with
    | nil =>
      have : row' = x :: row := by cases off <;> simpa [putCells] using h.symm
      subst this
      exact ⟨rfl, by simp; omega, by simp, by simp, fun j => by rw [if_neg (by simp)]⟩
    | cons c cs =>
      cases off with
      | zero =>
        simp only [putCells] at h
        cases h1 : isOne c with
        | false => rw [h1] at h; simp at h
        | true =>
          cases hr : putCells row 0 cs with
          | none => rw [h1, hr] at h; simp at h
          | some r =>
            rw [h1, hr] at h; simp at h; subst h
            obtain ⟨a1, a2, a3, a4, a5⟩ := ih hr
            refine ⟨by simp [a1], by simp at a2 ⊢; omega, by simp at a2 ⊢; omega, by simpa [h1] using a4, fun j => ?_⟩
            cases j with
            | zero => simp
            | succ j =>
              have := a5 j
              simp only [List.getElem?_cons_succ, this]
              by_cases hj : j < cs.length
              · rw [if_pos (by omega), if_pos (by simp; omega)]; simp
              · rw [if_neg (by omega), if_neg (by simp; omega)]
      | succ n =>
        simp only [putCells] at h
        cases hr : putCells row n (c :: cs) with
        | none => rw [hr] at h; cases h
        | some r =>
          rw [hr] at h; simp at h; subst h
          obtain ⟨a1, a2, a3, a4, a5⟩ := ih hr
          refine ⟨by simp [a1], by simp at a2 a3 ⊢; omega, by simp at a2 a3 ⊢; omega, a4, fun j => ?_⟩
          cases j with
          | zero => simp
          | succ j =>
            have := a5 j
            simp only [List.getElem?_cons_succ, this]
            by_cases hj : n ≤ j ∧ j < n + (c :: cs).length
            · rw [if_pos hj, if_pos (by omega)]; congr 1; omega
            · rw [if_neg hj, if_neg (by omega)]

theorem mem_get {α : Type} {l : List α} {x : α} (h : x ∈ l) : ∃ i : Nat, l[i]? = some x := List.mem_iff_getElem?.1 h
theorem RdL.get {ds : List D} {vs : List Value} (h : RdL M env ds vs) {i : Nat} {d : D} (hd : ds[i]? = some d) : ∃ x, vs[i]? = some x ∧ RdD M env d x := by
  have hi : i < ds.length := by
    rcases Nat.lt_or_ge i ds.length with h' | h'
    · exact h'
    · rw [List.getElem?_eq_none h'] at hd; cases hd
  have hi' : i < vs.length := by rw [← h.1]; exact hi
  exact ⟨vs[i], List.getElem?_eq_getElem hi', h.2 i d _ hd (List.getElem?_eq_getElem hi')⟩
theorem RdL.ones {ds : List D} {vs : List Value} (h : RdL M env ds vs) (ho : ∀ d ∈ ds, isOne d = true) : ∀ v ∈ vs, v.oneCell' = true := by
  intro v hv
  obtain ⟨i, hi⟩ := mem_get hv
  have hlt : i < ds.length := by
    rw [h.1]
    rcases Nat.lt_or_ge i vs.length with h' | h'
    · exact h'
    · rw [List.getElem?_eq_none h'] at hi; cases hi
  have hd := List.getElem?_eq_getElem hlt
  exact oneCell_of (h.2 i _ v hd hi) (ho _ (List.getElem_mem hlt))

theorem get_lt {α : Type} {l : List α} {i : Nat} {x : α} (h : l[i]? = some x) : i < l.length := by
  rcases Nat.lt_or_ge i l.length with h' | h'
  · exact h'
  · rw [List.getElem?_eq_none h'] at h; cases h

/-- Rows and places: 'i * k + j' tells both. -/
theorem row_split {k i j i' j' : Nat} (hj : j < k) (hj' : j' < k) (h : i * k + j = i' * k + j') : i = i' ∧ j = j' := by
  have hk : 0 < k := by omega
  have h1 : (i * k + j) / k = i := by rw [Nat.mul_comm, Nat.mul_add_div hk, Nat.div_eq_of_lt hj]; omega
  have h2 : (i' * k + j') / k = i' := by rw [Nat.mul_comm, Nat.mul_add_div hk, Nat.div_eq_of_lt hj']; omega
  have : i = i' := by rw [← h1, ← h2, h]
  subst this
  exact ⟨rfl, by omega⟩
theorem row_le {k i j n : Nat} (hj : j < k) (hi : i < n) : i * k + j < n * k := by
  have : i * k + k ≤ n * k := by
    have := Nat.mul_le_mul_right k (show i + 1 ≤ n by omega)
    rw [Nat.add_mul] at this; omega
  omega

/-- Cells of one row of an object are written. -/
theorem store_row {id : Nat} {blk : Blk} {rs : List (List D)} {b : Nat} (h : StH g H M env w) (he : env[id]? = some blk) (ho : H[id]? = some (.rows rs)) (hb : blk.b = some b)
    {r off : Nat} {row row' cs : List D} (hr : rs[r]? = some row) (hp : putCells row off cs = some row') {vs : List Value} (hvs : RdL M env cs vs) :
    ∃ w', (storeCells ⟨b, blk.o + r * blk.k + off, none⟩ vs).run Pr w = .ok () w' ∧ StH g (H.set id (.rows (rs.set r row'))) M env w' := by
  have hobj := h.sim.obj id blk _ he ho
  simp only [ObjR, hb] at hobj
  obtain ⟨c, e, fro, h1, h2, h3, h4, h5, h6⟩ := hobj
  obtain ⟨a1, a2, a3, a4, a5⟩ := putCells_spec hp
  have hrl : row.length = blk.k := h4 row (List.mem_of_getElem? hr)
  have hrn : r < rs.length := get_lt hr
  by_cases hcs : cs = []
  · subst hcs
    have hv := hvs.nil_inv
    subst hv
    have hrow : row' = row := List.ext_getElem? (fun j => by have := a5 j; rw [if_neg (by simp)] at this; exact this)
    refine ⟨w, rfl, ?_⟩
    subst hrow
    have e1 : rs.set r row' = rs := by
      apply List.ext_getElem?
      intro i
      by_cases hi : r = i
      · subst hi; rw [List.getElem?_set_self hrn, hr]
      · rw [List.getElem?_set_ne hi]
    rw [e1]
    have e2 : H.set id (.rows rs) = H := by
      apply List.ext_getElem?
      intro i
      by_cases hi : id = i
      · subst hi; rw [List.getElem?_set_self (get_lt ho), ho]
      · rw [List.getElem?_set_ne hi]
    rw [e2]; exact h
  · have hfit : off + cs.length ≤ blk.k := by rw [← hrl]; exact a3 hcs
    have hend : blk.o + r * blk.k + off + cs.length ≤ c.size := by
      have : r * blk.k + blk.k ≤ rs.length * blk.k := by
        have := Nat.mul_le_mul_right blk.k (show r + 1 ≤ rs.length by omega)
        rw [Nat.add_mul] at this; omega
      omega
    obtain ⟨w', c', hrun, hs, hne, hb', hsz, hget, hso⟩ := run_storeCells_arr (Pr := Pr) (b := b) (o := blk.o + r * blk.k + off) (e := e) (fro := fro) vs 0 w c h1 (by rw [← hvs.1]; omega) h6.not (hvs.ones a4)
    refine ⟨w', hrun, h.set he ho rfl hb hs hne ?_⟩
    simp only [ObjR, hb]
    refine ⟨c', e, fro, hb', by omega, by simpa using h3, ?_, ?_, by rw [hsz]; exact h6⟩
    · intro x hx
      obtain ⟨i, hi⟩ := mem_get hx
      by_cases hri : r = i
      · subst hri
        rw [List.getElem?_set_self hrn] at hi
        simp at hi; subst hi; omega
      · rw [List.getElem?_set_ne hri] at hi
        exact h4 x (List.mem_of_getElem? hi)
    · intro i j rw' d hi hj
      by_cases hri : r = i
      · subst hri
        rw [List.getElem?_set_self hrn] at hi
        simp at hi; subst hi
        have hjk : j < blk.k := by have := get_lt hj; omega
        have := a5 j
        rw [hj] at this
        by_cases hin : off ≤ j ∧ j < off + cs.length
        · rw [if_pos hin] at this
          obtain ⟨x, hx, hd⟩ := hvs.get this.symm
          refine ⟨x, ?_, hd⟩
          rw [hget, if_pos (by rw [← hvs.1]; omega), ← hx]
          congr 1; omega
        · rw [if_neg hin] at this
          obtain ⟨x, hx, hd⟩ := h5 r j row d hr this.symm
          refine ⟨x, ?_, hd⟩
          rw [hget, if_neg (by rw [← hvs.1]; omega)]
          exact hx
      · rw [List.getElem?_set_ne hri] at hi
        obtain ⟨x, hx, hd⟩ := h5 i j rw' d hi hj
        refine ⟨x, ?_, hd⟩
        have hjk : j < blk.k := by have := get_lt hj; have := h4 rw' (List.mem_of_getElem? hi); omega
        rw [hget, if_neg]
        · exact hx
        · rintro ⟨q1, q2⟩
          have hq : ∃ j', j' < blk.k ∧ i * blk.k + j = r * blk.k + j' := ⟨i * blk.k + j - r * blk.k, by rw [← hvs.1] at q2; omega, by omega⟩
          obtain ⟨j', hj', hq⟩ := hq
          exact hri (row_split hjk hj' hq).1.symm

theorem store_ok {t : TypeId} {ti : TI} (ht : tyOf Pr t = some ti) (h : StH g H M env w) {d x : D} {v y : Value} (hd : RdD M env d v) (hx : RdD M env x y) :
    OpOK Pr g M env w ((asUnit (Instr.storeAt t v y)).run Pr w) (opStore ti d x H) := by
  obtain ⟨i, td, z, hi, hu, hz, rfl⟩ := tyOf_spec ht
  unfold opStore
  cases hd with
  | ptr he hb =>
    rename_i id r off blk b
    simp only []
    split
    · rename_i rs hH
      rw [nth_eq] at hH
      split
      · rename_i row hrow
        rw [nth_eq] at hrow
        split
        · rename_i cs hcs
          unfold opStoreCells
          cases hsz : (cs.length == i.size) with
          | false => trivial
          | true =>
            simp only [cond_true]
            split
            · rename_i row' hp
              have hvs := RdL_cellsOf hx hcs
              obtain ⟨w', hrun, hst⟩ := store_row (Pr := Pr) h he hH hb hrow hp hvs
              rw [setN_eq, setN_eq]
              refine OpOK.unit (w' := w') ?_ hst
              show (storeVar t _ y).run Pr w = _
              unfold storeVar
              have hsz' : y.cells.size = i.size := by have := hvs.1; simp at this hsz; omega
              simp only [Sem.run_bind, run_sizeOf hi, Result.andThen_ok, hsz', ne_eq, not_true_eq_false, if_false]
              exact hrun
            · trivial
        · trivial
      · trivial
    · trivial
  | p hd => cases hd <;> trivial
  | _ => trivial
end Go.Ab
/-
  Each operation does what the abstract machine says: addresses, numbers, texts.
-/
namespace Go.Ab
variable {M : Mem} {env : List Blk} {H : Heap} {w w' : World} {Pr : Program} {g : G}

theorem tk_struct {d : TypeDesc} {fs : List (Nat × TypeId)} (h : tkOf d = .struct fs) : ∃ a : Array Field, d = .struct a ∧ fs = a.toList.map fun f => (f.offset, f.type) := by
  cases d <;> simp [tkOf] at h
  rename_i a
  exact ⟨a, rfl, h.symm⟩
theorem tk_slice {d : TypeDesc} {e : TypeId} (h : tkOf d = .slice e) : d = .slice e := by cases d <;> simp [tkOf] at h; subst h; rfl
theorem tk_array {d : TypeDesc} {n : Nat} {e : TypeId} (h : tkOf d = .array n e) : d = .array n e := by cases d <;> simp [tkOf] at h; obtain ⟨rfl, rfl⟩ := h; rfl
theorem tk_str {d : TypeDesc} (h : tkOf d = .str) : d = .string := by cases d <;> simp [tkOf] at h; rfl
theorem tk_int {d : TypeDesc} {k : IntKind} (h : tkOf d = .int k) : d = .int k := by cases d <;> simp [tkOf] at h; subst h; rfl
theorem tk_bool {d : TypeDesc} (h : tkOf d = .bool) : d = .bool := by cases d <;> simp [tkOf] at h; rfl
theorem tk_ptr {d : TypeDesc} {e : TypeId} (h : tkOf d = .ptr e) : d = .pointer e := by cases d <;> simp [tkOf] at h; subst h; rfl
theorem tk_map {d : TypeDesc} {k e : TypeId} (h : tkOf d = .map k e) : d = .map k e := by cases d <;> simp [tkOf] at h; obtain ⟨rfl, rfl⟩ := h; rfl

theorem int_inv {k : IntKind} {n : Int} {v : Value} (h : RdD M env (.p (.int k n)) v) : v = .int k n := by cases h with | p h => cases h; rfl
theorem bool_inv {b : Bool} {v : Value} (h : RdD M env (.p (.bool b)) v) : v = .bool b := by cases h with | p h => cases h; rfl
theorem str_inv {l : List UInt8} {v : Value} (h : RdD M env (.p (.str l)) v) : ∃ s : ByteArray, v = .string s ∧ s.data.toList = l := by cases h with | p h => cases h with | str h => exact ⟨_, rfl, h⟩

theorem OpOK.pre {r : Result Next} {p : Prop} {o : OV} (h : p → OpOK Pr g M env w r o) : OpOK Pr g M env w r (.pre p o) := h

theorem rowAt_get {rows : List (List P)} {n : Nat} (h : n < rows.length) : rows[n]? = some (rowAt rows n) := by
  simp [rowAt, List.getD, List.getElem?_eq_getElem h]

theorem indexAddr_ok {t : TypeId} {ti ei : TI} (ht : tyOf Pr t = some ti) (he : elemTI Pr ti.tk = some ei) (h : StH g H M env w) {x i : D} {v y : Value} (hx : RdD M env x v) (hi : RdD M env i y) :
    OpOK Pr g M env w ((asVal (Instr.indexAt t v y)).run Pr w) (opIndexAddr ti.tk ei.size x i H) := by
  obtain ⟨inf, td, z, hinf, hu, hz, rfl⟩ := tyOf_spec ht
  unfold opIndexAddr
  simp only [] at he ⊢
  split
  · rename_i e rows k n htk
    rw [htk] at he
    obtain rfl := tk_slice htk
    obtain ⟨einf, etd, ez, heinf, heu, hez, rfl⟩ := tyOf_spec (show tyOf Pr e = some ei from he)
    refine OpOK.pre fun ⟨h0, h1, h2⟩ => ?_
    obtain rfl := int_inv hi
    have hrow := rowAt_get (rows := rows) (n := n.toNat) (by omega)
    cases hx with
    | p hx =>
    cases hx with
    | lstNil => simp at h1; omega
    | lstE => simp at h1; omega
    | lst hk hcap hM hR =>
      rename_i k' b o cap c
      have hkk : k' = einf.size := by rw [← hk _ (List.mem_of_getElem? hrow)]; exact h2
      subst hkk
      refine OpOK.same h (v := .pointer (some ⟨b, o + n.toNat * einf.size, none⟩)) ?_ (.p ?_)
      · simp [Instr.indexAt, asIntOf, run_underlying hu, h0, h1, sizeOf, typeInfo, heinf, addr_add]
      · exact RdP.vptr (row := rowAt rows n.toNat) (off := 0) (b := b) (o := o + n.toNat * einf.size) (c := fun j => c n.toNat j)
          (fun j p hj => hM _ _ _ p hrow hj) (fun j p hj => hR _ _ _ p hrow hj)
  · rename_i e id k st len cap k' n htk
    rw [htk] at he
    obtain rfl := tk_slice htk
    obtain ⟨einf, etd, ez, heinf, heu, hez, rfl⟩ := tyOf_spec (show tyOf Pr e = some ei from he)
    cases hk : (k == einf.size) with
    | false => trivial
    | true =>
      simp only [cond_true]
      refine OpOK.pre fun ⟨h0, h1⟩ => ?_
      obtain rfl := int_inv hi
      have hk' : k = einf.size := by simpa using hk
      cases hx with
      | ownNil => omega
      | own hen hb hkk ho hl hn hc =>
        rename_i blk b o c
        have hoo := ho (by omega)
        refine OpOK.same h (v := .pointer (some ⟨b, o + n.toNat * einf.size, none⟩)) ?_ ?_
        · simp [Instr.indexAt, asIntOf, run_underlying hu, h0, h1, sizeOf, typeInfo, heinf, addr_add]
        · have := RdD.ptr (M := M) (row := st + n.toNat) (off := 0) hen hb
          have e1 : blk.o + (st + n.toNat) * blk.k + 0 = o + n.toNat * einf.size := by
            rw [hoo, hkk, ← hk', Nat.add_mul]; omega
          rw [e1] at this; exact this
  · rename_i m e id r off k n htk
    rw [htk] at he
    obtain rfl := tk_array htk
    obtain ⟨einf, etd, ez, heinf, heu, hez, rfl⟩ := tyOf_spec (show tyOf Pr e = some ei from he)
    refine OpOK.pre fun ⟨h0, h1⟩ => ?_
    obtain rfl := int_inv hi
    cases hx with
    | ptr hen hb =>
      rename_i blk b
      refine OpOK.same h (v := .pointer (some ⟨b, blk.o + r * blk.k + off + n.toNat * einf.size, none⟩)) ?_ ?_
      · simp [Instr.indexAt, asIntOf, run_underlying hu, h0, h1, sizeOf, typeInfo, heinf, addr_add, Instr.sureAddr]
      · have := RdD.ptr (M := M) (row := r) (off := off + n.toNat * einf.size) hen hb
        rw [← Nat.add_assoc] at this; exact this
  · rename_i m e row off k n htk
    rw [htk] at he
    obtain rfl := tk_array htk
    obtain ⟨einf, etd, ez, heinf, heu, hez, rfl⟩ := tyOf_spec (show tyOf Pr e = some ei from he)
    refine OpOK.pre fun ⟨h0, h1⟩ => ?_
    obtain rfl := int_inv hi
    cases hx with
    | p hx =>
    cases hx with
    | vptr hM hR =>
      rename_i b o c
      refine OpOK.same h (v := .pointer (some ⟨b, o + off + n.toNat * einf.size, none⟩)) ?_ (.p ?_)
      · simp [Instr.indexAt, asIntOf, run_underlying hu, h0, h1, sizeOf, typeInfo, heinf, addr_add, Instr.sureAddr]
      · have := RdP.vptr (off := off + n.toNat * einf.size) hM hR
        rw [← Nat.add_assoc] at this; exact this
  · trivial

theorem part_p {ti : TI} {t : TypeId} (ht : tyOf Pr t = some ti) (h : StH g H M env w) {cs : List P} {vs : Array Value} (hr : RdP M (.agg cs) (.agg vs)) (off : Nat) :
    OpOK Pr g M env w ((asVal (part t vs off)).run Pr w) (ovOfRowP ti cs off H) := by
  obtain ⟨i, td, z, hi, hu, hz, rfl⟩ := tyOf_spec ht
  cases hr with
  | agg hl hc =>
  unfold ovOfRowP
  split
  · rename_i hagg
    split
    · rename_i ds hds
      obtain ⟨rfl, hlen⟩ := takeN_eq hds
      rw [dropN_eq] at hlen ⊢
      refine OpOK.same h (v := .agg (vs.extract off (off + i.size))) ?_ (.p (.agg ?_ (fun j c x h1 h2 => ?_)))
      · simp [part, run_isAgg hu, hagg, run_sizeOf hi]
      · have h3 : i.size ≤ _ := hlen
        simp at h3 ⊢; omega
      · rw [List.getElem?_take] at h1
        split at h1
        · rw [List.getElem?_drop] at h1
          refine hc _ _ _ h1 ?_
          rw [Array.getElem?_extract] at h2
          split at h2
          · exact h2
          · cases h2
        · cases h1
    · trivial
  · rename_i hagg
    split
    · rename_i d hd
      rw [nth_eq] at hd
      have hlt : off < vs.size := by rw [← hl]; exact get_lt hd
      refine OpOK.same h (v := vs[off]) ?_ (.p (hc off d _ hd (Array.getElem?_eq_getElem hlt)))
      simp [part, run_isAgg hu, hagg, Array.getElem?_eq_getElem hlt]
    · trivial
theorem part_d {ti : TI} {t : TypeId} (ht : tyOf Pr t = some ti) (h : StH g H M env w) {cs : List D} {vs : Array Value} (hl : cs.length = vs.size)
    (hc : ∀ (i : Nat) (c : D) (x : Value), cs[i]? = some c → vs[i]? = some x → RdD M env c x) (off : Nat) :
    OpOK Pr g M env w ((asVal (part t vs off)).run Pr w) (ovOfRow ti cs off H) := by
  obtain ⟨i, td, z, hi, hu, hz, rfl⟩ := tyOf_spec ht
  unfold ovOfRow
  split
  · rename_i hagg
    split
    · rename_i ds hds
      obtain ⟨rfl, hlen⟩ := takeN_eq hds
      rw [dropN_eq] at hlen ⊢
      have hrd : RdL M env (List.take i.size (List.drop off cs)) (vs.extract off (off + i.size)).toList := by
        refine ⟨?_, fun j c x h1 h2 => ?_⟩
        · have h3 : i.size ≤ _ := hlen
          simp at h3 ⊢; omega
        · rw [List.getElem?_take] at h1
          split at h1
          · rw [List.getElem?_drop] at h1
            refine hc _ _ _ h1 ?_
            rw [Array.getElem?_toList, Array.getElem?_extract] at h2
            split at h2
            · exact h2
            · cases h2
          · cases h1
      refine OpOK.same h (v := .agg (vs.extract off (off + i.size))) ?_ ?_
      · simp [part, run_isAgg hu, hagg, run_sizeOf hi]
      · have := RdD_mkAgg hrd
        rwa [Array.toArray_toList] at this
    · trivial
  · rename_i hagg
    split
    · rename_i d hd
      rw [nth_eq] at hd
      have hlt : off < vs.size := by rw [← hl]; exact get_lt hd
      refine OpOK.same h (v := vs[off]) ?_ (hc off d _ hd (Array.getElem?_eq_getElem hlt))
      simp [part, run_isAgg hu, hagg, Array.getElem?_eq_getElem hlt]
    · trivial

theorem index_ok {t : TypeId} {ti : TI} {oe : Option TI} (ht : tyOf Pr t = some ti) (he : elemTI Pr ti.tk = oe) (h : StH g H M env w) {x i : D} {v y : Value} (hx : RdD M env x v) (hi : RdD M env i y) :
    OpOK Pr g M env w ((asVal (Instr.index t v y)).run Pr w) (opIndex ti oe x i H) := by
  obtain ⟨inf, td, z, hinf, hu, hz, rfl⟩ := tyOf_spec ht
  unfold opIndex
  simp only [] at he ⊢
  split
  · rename_i l k n htk
    obtain rfl := tk_str htk
    refine OpOK.pre fun ⟨h0, h1⟩ => ?_
    obtain rfl := int_inv hi
    obtain ⟨s, rfl, hs⟩ := str_inv hx
    have hsz : n.toNat < s.size := by
      have h3 : l.length = s.data.size := by rw [← hs]; exact Array.length_toList
      have h4 : s.size = s.data.size := rfl
      omega
    refine OpOK.same h (v := .int .u8 (l.getD n.toNat 0).toNat) ?_ (.p .int)
    have hg : s[n.toNat]? = some (l.getD n.toNat 0) := by
      rw [getElem?_pos s n.toNat hsz]
      have h3 : n.toNat < l.length := by omega
      have h4 : l[n.toNat] = s[n.toNat] := by subst hs; rfl
      simp only [List.getD, List.getElem?_eq_getElem h3, Option.getD_some, h4]
    simp [Instr.index, asIntOf, run_underlying hu, h0, hg]
  · rename_i m e cs k n htk
    obtain rfl := tk_array htk
    split
    · rename_i ei
      rw [htk] at he
      refine OpOK.pre fun ⟨h0, h1⟩ => ?_
      obtain rfl := int_inv hi
      have hei : tyOf Pr e = some ei := he
      obtain ⟨einf, etd, ez, heinf, heu, hez, rfl⟩ := tyOf_spec hei
      cases hx with
      | p hx =>
      cases hx with
      | agg hl hc =>
        rename_i vs
        have := part_p (Pr := Pr) (H := H) hei h (RdP.agg hl hc) (n.toNat * einf.size)
        have heq : (asVal (Instr.index t (.agg vs) (.int k n))).run Pr w = (asVal (part e vs (n.toNat * einf.size))).run Pr w := by
          simp [asVal, Instr.index, asIntOf, run_underlying hu, h0, h1, run_sizeOf heinf]
        rw [heq]; exact this
    · trivial
  · trivial

theorem field_facts {td : TypeDesc} {f : Nat} {p : Nat × TypeId} (hp : fieldOf (tkOf td) f = some p) : ∃ (a : Array Field) (fd : Field), td = .struct a ∧ a[f]? = some fd ∧ p = (fd.offset, fd.type) := by
  unfold fieldOf at hp
  split at hp
  · rename_i fs htk
    obtain ⟨a, rfl, rfl⟩ := tk_struct htk
    rw [nth_eq] at hp
    simp only [List.getElem?_map, Option.map_eq_some_iff] at hp
    obtain ⟨fd, h1, h2⟩ := hp
    exact ⟨a, fd, rfl, by simpa using h1, h2.symm⟩
  · cases hp

theorem fieldAddr_ok {t : TypeId} {ti : TI} {f : Nat} {p : Nat × TypeId} (ht : tyOf Pr t = some ti) (hp : fieldOf ti.tk f = some p) (h : StH g H M env w) {x : D} {v : Value} (hx : RdD M env x v) :
    OpOK Pr g M env w ((asVal (Instr.fieldAt t v f)).run Pr w) (opFieldAddr (some p) (tyOf Pr p.2) x H) := by
  obtain ⟨inf, td, z, hinf, hu, hz, rfl⟩ := tyOf_spec ht
  obtain ⟨a, fd, rfl, ha, rfl⟩ := field_facts hp
  unfold opFieldAddr
  split
  · rename_i o tt fi id r off h1 h2
    simp only [Option.some.injEq, Prod.mk.injEq] at h1
    obtain ⟨rfl, rfl⟩ := h1
    obtain ⟨finf, ftd, fz, hfinf, hfu, hfz, rfl⟩ := tyOf_spec h2
    cases hs0 : (finf.size == 0) with
    | true => trivial
    | false =>
      simp only [cond_false]
      cases hx with
      | ptr hen hb =>
        rename_i blk b
        refine OpOK.same h (v := .pointer (some ⟨b, blk.o + r * blk.k + off + fd.offset, none⟩)) ?_ ?_
        · have : finf.size ≠ 0 := by simpa using hs0
          simp [Instr.fieldAt, run_underlying hu, ha, Instr.sureAddr, fieldPlace, run_sizeOf hfinf, this, addr_add]
        · have := RdD.ptr (M := M) (row := r) (off := off + fd.offset) hen hb
          rw [← Nat.add_assoc] at this; exact this
  · rename_i o tt fi row off h1 h2
    simp only [Option.some.injEq, Prod.mk.injEq] at h1
    obtain ⟨rfl, rfl⟩ := h1
    obtain ⟨finf, ftd, fz, hfinf, hfu, hfz, rfl⟩ := tyOf_spec h2
    cases hs0 : (finf.size == 0) with
    | true => trivial
    | false =>
      simp only [cond_false]
      cases hx with
      | p hx =>
      cases hx with
      | vptr hM hR =>
        rename_i b o c
        refine OpOK.same h (v := .pointer (some ⟨b, o + off + fd.offset, none⟩)) ?_ (.p ?_)
        · have : finf.size ≠ 0 := by simpa using hs0
          simp [Instr.fieldAt, run_underlying hu, ha, Instr.sureAddr, fieldPlace, run_sizeOf hfinf, this, addr_add]
        · have := RdP.vptr (off := off + fd.offset) hM hR
          rw [← Nat.add_assoc] at this; exact this
  · trivial

theorem field_ok {t : TypeId} {ti : TI} {f : Nat} {p : Nat × TypeId} (ht : tyOf Pr t = some ti) (hp : fieldOf ti.tk f = some p) (h : StH g H M env w) {x : D} {v : Value} (hx : RdD M env x v) :
    OpOK Pr g M env w ((asVal (Instr.field t v f)).run Pr w) (opField (some p) (tyOf Pr p.2) x H) := by
  obtain ⟨inf, td, z, hinf, hu, hz, rfl⟩ := tyOf_spec ht
  obtain ⟨a, fd, rfl, ha, rfl⟩ := field_facts hp
  unfold opField
  split
  · rename_i o tt fi cs h1 h2
    simp only [Option.some.injEq, Prod.mk.injEq] at h1
    obtain ⟨rfl, rfl⟩ := h1
    cases hx with
    | p hx =>
    cases hx with
    | agg hl hc =>
      rename_i vs
      have := part_p (Pr := Pr) (H := H) h2 h (RdP.agg hl hc) fd.offset
      have heq : (asVal (Instr.field t (.agg vs) f)).run Pr w = (asVal (part fd.type vs fd.offset)).run Pr w := by simp [asVal, Instr.field, run_underlying hu, ha, asAgg]
      rw [heq]; exact this
  · rename_i o tt fi cs h1 h2
    simp only [Option.some.injEq, Prod.mk.injEq] at h1
    obtain ⟨rfl, rfl⟩ := h1
    cases hx with
    | agg hl hc =>
      rename_i vs
      have := part_d (Pr := Pr) (H := H) h2 h hl hc fd.offset
      have heq : (asVal (Instr.field t (.agg vs) f)).run Pr w = (asVal (part fd.type vs fd.offset)).run Pr w := by simp [asVal, Instr.field, run_underlying hu, ha, asAgg]
      rw [heq]; exact this
  · trivial

theorem extract_ok (h : StH g H M env w) {x : D} {v : Value} (hx : RdD M env x v) (i : Nat) : OpOK Pr g M env w ((asVal (Instr.extract v i)).run Pr w) (opExtract x i H) := by
  unfold opExtract
  split
  · rename_i ds
    split
    · rename_i d hd
      rw [nth_eq] at hd
      cases hx with
      | tup hl hc =>
        rename_i vs
        have hlt : i < vs.size := by rw [← hl]; exact get_lt hd
        refine OpOK.same h (v := vs[i]) ?_ (hc i d _ hd (Array.getElem?_eq_getElem hlt))
        simp [Instr.extract, Array.getElem?_eq_getElem hlt]
    · trivial
  · trivial
end Go.Ab
/-
  Each operation does what the abstract machine says: numbers, texts, truth.
-/
namespace Go.Ab
variable {M : Mem} {env : List Blk} {H : Heap} {w w' : World} {Pr : Program} {g : G}

theorem bl_eq (s : ByteArray) : s.toList = s.data.toList := ByteArray.toList_eq s
theorem beq_dec (a b : Int) : (a == b) = decide (a = b) := by by_cases h : a = b <;> simp [h]
theorem beq_decL (a b : List UInt8) : (a == b) = decide (a = b) := by by_cases h : a = b <;> simp [h]

/-- The two sides of '=='. -/
def asBin (op : BinOp) (t : TypeId) (ox oy : Operand) (a b : Value) : Sem Value := do eqGuard op t ox oy a b; binOp op t a b
theorem run_asBin {op : BinOp} {t : TypeId} {ox oy : Operand} {a b v : Value} (hg : (eqGuard op t ox oy a b).run Pr w = .ok () w) (h : (binOp op t a b).run Pr w = .ok v w) :
    (asBin op t ox oy a b).run Pr w = .ok v w := by simp [asBin, hg, h]

theorem guard_int {op : BinOp} {t : TypeId} {ox oy : Operand} {k k' : IntKind} {a b : Int} : (eqGuard op t ox oy (.int k a) (.int k' b)).run Pr w = .ok () w := by
  cases op <;> simp [eqGuard]
theorem guard_str {op : BinOp} {t : TypeId} {ox oy : Operand} {a b : ByteArray} : (eqGuard op t ox oy (.string a) (.string b)).run Pr w = .ok () w := by
  cases op <;> simp [eqGuard]
theorem guard_bool {op : BinOp} {t : TypeId} {ox oy : Operand} {a b : Bool} : (eqGuard op t ox oy (.bool a) (.bool b)).run Pr w = .ok () w := by
  cases op <;> simp [eqGuard]
theorem guard_ptr {op : BinOp} {t : TypeId} {ox oy : Operand} {a b : Option Addr} : (eqGuard op t ox oy (.pointer a) (.pointer b)).run Pr w = .ok () w := by
  cases op <;> simp [eqGuard]

theorem intBin_ok {op : BinOp} {t : TypeId} {ox oy : Operand} {k : IntKind} {a b : Int} (h : StH g H M env w) (hs : isShift op = false) :
    OpOK Pr g M env w ((asVal (asBin op t ox oy (.int k a) (.int k b))).run Pr w) (intBin op k a b H) := by
  cases op <;> simp only [intBin] <;> first
    | trivial
    | (refine OpOK.same h (v := .int k _) (run_asBin guard_int ?_) (.p .int); simp [binOp, Op.intArith]; done)
    | (refine OpOK.same h (v := .int k _) (run_asBin guard_int ?_) (.p .int); simp [binOp, Op.intBits]; done)
    | (refine OpOK.same h (v := .bool _) (run_asBin guard_int ?_) (.p .bool); simp [binOp, Op.intCmp, beq_dec, bne]; done)
    | (refine OpOK.pre fun hb => OpOK.same h (v := .int k _) (run_asBin guard_int ?_) (.p .int); simp [binOp, Op.intDiv, hb]; done)
theorem shiftBin_ok {op : BinOp} {t : TypeId} {ox oy : Operand} {k k' : IntKind} {a b : Int} (h : StH g H M env w) :
    OpOK Pr g M env w ((asVal (asBin op t ox oy (.int k a) (.int k' b))).run Pr w) (shiftBin op k a b H) := by
  cases op <;> simp only [shiftBin] <;> first
    | trivial
    | (refine OpOK.pre fun hb => OpOK.same h (v := .int k _) (run_asBin guard_int ?_) (.p .int); have : ¬ b < 0 := by omega
       simp [binOp, Op.shift, this]; done)

theorem bytes_inj' {a b : ByteArray} (h : a.data.toList = b.data.toList) : a = b := by
  cases a; cases b; simp at h; rw [show _ = _ from h]

theorem strBin_ok {op : BinOp} {t : TypeId} {ox oy : Operand} {a b : ByteArray} (h : StH g H M env w) :
    OpOK Pr g M env w ((asVal (asBin op t ox oy (.string a) (.string b))).run Pr w) (strBin op a.data.toList b.data.toList H) := by
  cases op <;> simp only [strBin] <;> first
    | trivial
    | (refine OpOK.same h (v := .bool _) (run_asBin guard_str ?_) (.p .bool); simp only [binOp, Op.stringOp, bl_eq, beq_decL, strLt, Sem.run_pure]; done)
    | (refine OpOK.same h (v := .bool _) (run_asBin guard_str ?_) (.p .bool); simp only [binOp, Op.stringOp, bl_eq, strLt, Sem.run_pure]; done)
    | skip
  refine OpOK.pre fun hb => OpOK.same h (v := .string (a ++ b)) (run_asBin guard_str ?_) (.p (.str ?_))
  · have h1 : a.data.toList.length = a.size := Array.length_toList
    have h2 : b.data.toList.length = b.size := Array.length_toList
    have : ¬ (((a.size + b.size : Nat) : Int) > IntKind.i64.max) := by
      have : IntKind.i64.max = 9223372036854775807 := by decide
      rw [this]
      unfold maxS at hb
      omega
    simp only [binOp, Op.stringOp, if_neg this, Sem.run_pure]
  · simp
theorem boolBin_ok {op : BinOp} {t : TypeId} {ox oy : Operand} {a b : Bool} (hu : Pr.underlying t = some .bool) (h : StH g H M env w) :
    OpOK Pr g M env w ((asVal (asBin op t ox oy (.bool a) (.bool b))).run Pr w) (boolBin op a b H) := by
  cases op <;> simp only [boolBin] <;> first
    | trivial
    | (refine OpOK.same h (run_asBin guard_bool (run_eql_bool _ t a b hu)) (.p .bool); done)
    | (refine OpOK.same h (run_asBin guard_bool (run_neq_bool _ t a b hu)) (.p .bool); done)
theorem nilBin_ok {op : BinOp} {t e : TypeId} {ox oy : Operand} {a : Option Addr} (hu : Pr.underlying t = some (.pointer e)) (h : StH g H M env w) :
    OpOK Pr g M env w ((asVal (asBin op t ox oy (.pointer a) (.pointer none))).run Pr w) (nilBin op a.isNone H) := by
  have hu' : Pr.underlying t = some (.pointer (Pr.pointee t)) := by simp [Program.pointee, hu]
  cases op <;> simp only [nilBin] <;> first
    | trivial
    | (refine OpOK.same h (v := .bool _) (run_asBin guard_ptr ?_) (.p .bool); exact run_eql_pointer_nil _ t a hu'; done)
    | (refine OpOK.same h (v := .bool _) (run_asBin guard_ptr ?_) (.p .bool); exact run_neq_pointer_nil _ t a hu'; done)

theorem bin_ok {op : BinOp} {t : TypeId} {ti : TI} {ox oy : Operand} (ht : tyOf Pr t = some ti) (h : StH g H M env w) {x y : D} {a b : Value} (hx : RdD M env x a) (hy : RdD M env y b) :
    OpOK Pr g M env w ((asVal (asBin op t ox oy a b)).run Pr w) (opBin op ti.tk x y H) := by
  obtain ⟨i, td, z, hi, hu, hz, rfl⟩ := tyOf_spec ht
  unfold opBin
  split
  · obtain rfl := int_inv hx
    obtain rfl := int_inv hy
    cases hs : isShift op with
    | true => exact shiftBin_ok h
    | false =>
      simp only [cond_false]
      split
      · rename_i hk; subst hk; exact intBin_ok h hs
      · trivial
  · obtain ⟨s, rfl, rfl⟩ := str_inv hx
    obtain ⟨s', rfl, rfl⟩ := str_inv hy
    exact strBin_ok h
  · obtain rfl := bool_inv hx
    obtain rfl := bool_inv hy
    split
    · rename_i htk
      obtain rfl := tk_bool htk
      exact boolBin_ok hu h
    · trivial
  · split
    · rename_i htk
      obtain rfl := tk_ptr htk
      cases hx with
      | ptr h1 h2 => cases hy with | p hy => cases hy; exact nilBin_ok hu h
    · trivial
  · split
    · rename_i htk
      obtain rfl := tk_ptr htk
      cases hx with
      | p hx => cases hx; cases hy with | p hy => cases hy; exact nilBin_ok hu h
    · trivial
  · split
    · rename_i htk
      obtain rfl := tk_ptr htk
      cases hx with
      | p hx => cases hx; cases hy with | p hy => cases hy; exact nilBin_ok hu h
    · trivial
  · trivial

theorem part_cell {t : TypeId} {td : TypeDesc} (hu : Pr.underlying t = some td) (ha : (tkOf td).isAgg = false) {vs : Array Value} {off : Nat} {v : Value} (hv : vs[off]? = some v) : (part t vs off).run Pr w = .ok v w := by
  simp [part, run_isAgg hu, ha, hv]
theorem cellEq_ok {d : Nat} {t : TypeId} {ti : TI} (ht : tyOf Pr t = some ti) {a b : P} {r : Bool} (h : cellEq ti.tk a b = some r) {x y : Value} (hx : RdP M a x) (hy : RdP M b y) : (Op.equalIn (d + 1) t x y).run Pr w = .ok r w ∧ ti.tk.isAgg = false := by
  obtain ⟨i, td, z, hi, hu, hz, rfl⟩ := tyOf_spec ht
  unfold cellEq at h
  split at h
  · rename_i htk
    obtain rfl := tk_bool htk
    cases hx; cases hy
    simp at h; subst h
    exact ⟨run_equalIn_bool' w d t _ _ hu, rfl⟩
  · rename_i k0 k1 n k2 m htk
    obtain ⟨k3, rfl⟩ : ∃ k3, td = .int k3 := by
      cases td <;> simp [tkOf] at htk
      exact ⟨_, rfl⟩
    split at h
    · rename_i hk
      subst hk
      cases hx; cases hy
      simp at h; subst h
      rw [run_equalIn_int w d t k1 k3 _ _ hu, beq_dec]
      exact ⟨rfl, rfl⟩
    · cases h
  · rename_i htk
    obtain rfl : td = .string := by
      cases td <;> simp [tkOf] at htk
      rfl
    cases hx with | str e1 =>
    cases hy with | str e2 =>
    simp at h; subst h
    rw [run_equalIn_string w d t _ _ hu, bl_eq, bl_eq, beq_decL, e1, e2]
    exact ⟨rfl, rfl⟩
  · cases h
theorem fieldsEq_ok {d : Nat} {cs es : List P} {xs ys : Array Value} (hx : RdP M (.agg cs) (.agg xs)) (hy : RdP M (.agg es) (.agg ys)) : ∀ (fs : List Field) (r : Bool), (∀ f ∈ fs, f.name ≠ "_") → fieldsEq Pr cs es (fs.map fun f => (f.offset, f.type)) = some r → (Op.eqFields (d + 1) xs ys fs).run Pr w = .ok r w
  | [], r, _, h => by
    simp [fieldsEq] at h; subst h
    simp [Op.eqFields]
  | f :: fs, r, hn, h => by
    simp only [List.map_cons, fieldsEq] at h
    split at h
    · cases h
    · rename_i ti hti
      split at h
      · cases h
      · rename_i a ha
        split at h
        · cases h
        · rename_i b hb
          split at h
          · cases h
          · rename_i e he
            split at h
            · cases h
            · rename_i r' hr'
              simp at h; subst h
              have ih := fieldsEq_ok (d := d) hx hy fs r' (fun g hg => hn g (List.mem_cons_of_mem _ hg)) hr'
              cases hx with | agg hl hc =>
              cases hy with | agg hl2 hc2 =>
              rw [nth_eq] at ha hb
              obtain ⟨x, hxx⟩ : ∃ x, xs[f.offset]? = some x := by
                have := get_lt ha
                exact ⟨xs[f.offset]'(by omega), by simp⟩
              obtain ⟨y, hyy⟩ : ∃ y, ys[f.offset]? = some y := by
                have := get_lt hb
                exact ⟨ys[f.offset]'(by omega), by simp⟩
              have hce := cellEq_ok (Pr := Pr) (w := w) (d := d) hti he (hc _ _ _ ha hxx) (hc2 _ _ _ hb hyy)
              obtain ⟨i, td, z, hi, hu, hz, rfl⟩ := tyOf_spec hti
              have h1 := part_cell (w := w) hu hce.2 hxx
              have h2 := part_cell (w := w) hu hce.2 hyy
              simp only [Op.eqFields, if_pos (hn f (List.mem_cons_self ..)), Sem.run_bind, h1, h2, hce.1, Result.andThen_ok, Sem.run_ite]
              cases e
              · simp
              · simp [ih]
theorem binA_ok {op : BinOp} {t : TypeId} {ti : TI} {ox oy : Operand} (ht : tyOf Pr t = some ti) (h : StH g H M env w) {x y : D} {a b : Value} (hx : RdD M env x a) (hy : RdD M env y b) :
    OpOK Pr g M env w ((asVal (asBin op t ox oy a b)).run Pr w) (opBinA Pr op t ti.tk x y H) := by
  unfold opBinA
  split
  · rename_i neg cs es harg
    unfold opAggEq
    split
    · rename_i fs htk
      split
      · rename_i r hr
        refine OpOK.pre fun hp => ?_
        obtain ⟨i, td, z, hi, hu, hz, rfl⟩ := tyOf_spec ht
        obtain ⟨ar, rfl, rfl⟩ := tk_struct htk
        unfold aggPlain at hp
        rw [hu] at hp
        simp only [Bool.and_eq_true, Bool.not_eq_true'] at hp
        obtain ⟨hp1, hp2, hp3⟩ := hp
        have hnm : ∀ f ∈ ar.toList, f.name ≠ "_" := fun f hf => by
          have := List.all_eq_true.1 hp3 f hf
          simpa using this
        have hfo : Pr.fieldsOf t = ar := by unfold Program.fieldsOf; rw [hu]
        unfold aggArg at harg
        split at harg
        · simp at harg
          obtain ⟨rfl, rfl, rfl⟩ := harg
          cases hx with | p hx =>
          cases hy with | p hy =>
          cases hx with | agg hl hc =>
          cases hy with | agg hl2 hc2 =>
          have hf := fieldsEq_ok (Pr := Pr) (w := w) (d := 9998) (RdP.agg hl hc) (RdP.agg hl2 hc2) ar.toList r hnm hr
          have he := fun xs ys => run_equalIn_struct w 9999 t xs ys (by rw [hfo]; exact hu) hp1
          refine OpOK.same h (v := .bool r) (run_asBin (run_eqGuard_agg w _ t _ _ _ _ hp2) ?_) (.p .bool)
          rw [run_eql_struct, he, hfo, hf]; rfl
        · simp at harg
          obtain ⟨rfl, rfl, rfl⟩ := harg
          cases hx with | p hx =>
          cases hy with | p hy =>
          cases hx with | agg hl hc =>
          cases hy with | agg hl2 hc2 =>
          have hf := fieldsEq_ok (Pr := Pr) (w := w) (d := 9998) (RdP.agg hl hc) (RdP.agg hl2 hc2) ar.toList r hnm hr
          have he := fun xs ys => run_equalIn_struct w 9999 t xs ys (by rw [hfo]; exact hu) hp1
          refine OpOK.same h (v := .bool (!r)) (run_asBin (run_eqGuard_agg w _ t _ _ _ _ hp2) ?_) (.p .bool)
          rw [run_neq_struct, he, hfo, hf]; rfl
        · cases harg
      · trivial
    · trivial
  · exact bin_ok ht h hx hy

theorem un_ok {u : UnOp} (h : StH g H M env w) {x : D} {a : Value} (hx : RdD M env x a) : OpOK Pr g M env w ((asVal (Op.unary u a)).run Pr w) (opUn u x H) := by
  unfold opUn
  split
  · obtain rfl := bool_inv hx
    exact OpOK.same h (v := .bool _) (by simp [Op.unary]) (.p .bool)
  · obtain rfl := int_inv hx
    exact OpOK.same h (v := .int _ _) (by simp [Op.unary, Op.intArith]) (.p .int)
  · obtain rfl := int_inv hx
    exact OpOK.same h (v := .int _ _) (by simp [Op.unary, Op.intBits]) (.p .int)
  · trivial

theorem nilCheck_ok (h : StH g H M env w) {ρ : Operand → Value} {x : Operand} {d : D} {ty : TypeId} {pos : String} {aft : Array Edge} {gd : Option (Nat × Bool)} {dst : Option Tmp}
    (hx : RdD M env d (ρ x)) : OpOK Pr g M env w ((execOp ρ { dst, op := .nilCheck x, type := ty, pos, after := aft, guard := gd }).run Pr w) (opNilCheck d H) := by
  unfold opNilCheck
  split
  · generalize hv : ρ x = v at hx
    cases hx with
    | ptr h1 h2 =>
      refine ⟨_, w, M, env, .inl ?_, Ext.refl _ _, h, .ptr h1 h2⟩
      simp [execOp, hv]
  · generalize hv : ρ x = v at hx
    cases hx with
    | p hx =>
    cases hx with
    | vptr h1 h2 =>
      refine ⟨_, w, M, env, .inl ?_, Ext.refl _ _, h, .p (.vptr h1 h2)⟩
      simp [execOp, hv]
  · generalize hv : ρ x = v at hx
    cases hx with
    | fn a b c d =>
      refine ⟨_, w, M, env, .inl ?_, Ext.refl _ _, h, .fn a b c d⟩
      simp [execOp, hv]
  · generalize hv : ρ x = v at hx
    cases hx with
    | iface a =>
      refine ⟨_, w, M, env, .inl ?_, Ext.refl _ _, h, .iface a⟩
      simp [execOp, hv]
  · trivial
end Go.Ab
/-
  Each operation does what the abstract machine says: slices and texts.
-/
namespace Go.Ab
variable {M : Mem} {env : List Blk} {H : Heap} {w w' : World} {Pr : Program} {g : G}

theorem flatten_get {α : Type} {k : Nat} : ∀ {rs : List (List α)}, (∀ r ∈ rs, r.length = k) → ∀ (q : Nat) (x : α), rs.flatten[q]? = some x → ∃ (i j : Nat) (row : List α), q = i * k + j ∧ rs[i]? = some row ∧ row[j]? = some x
  | [], _, q, x, h => by simp at h
  | r :: rs, hk, q, x, h => by
    have hr : r.length = k := hk r (by simp)
    rw [List.flatten_cons] at h
    rcases Nat.lt_or_ge q r.length with hq | hq
    · rw [List.getElem?_append_left hq] at h
      exact ⟨0, q, r, by omega, rfl, h⟩
    · rw [List.getElem?_append_right hq] at h
      obtain ⟨i, j, row, e, h1, h2⟩ := flatten_get (fun r h => hk r (by simp [h])) _ _ h
      exact ⟨i + 1, j, row, by rw [Nat.add_mul]; omega, by simpa using h1, h2⟩

/-- What a slice holds can be read. -/
theorem rows_read {d : D} {v : Value} {rs : List (List D)} (h : SimH M env H w) (hd : RdD M env d v) (hr : rowsD d H = some rs) (hl : lenD d = some rs.length) :
    (v = .slice none 0 0 ∧ rs = []) ∨ (rs = [] ∧ (∃ a cap, v = .slice (some a) 0 cap) ∧ ∃ rows, d = .p (.lst rows)) ∨ ∃ (b o cap k : Nat) (vs : List Value), v = .slice (some ⟨b, o, none⟩) rs.length cap ∧ (∀ r ∈ rs, r.length = k) ∧ RdL M env rs.flatten vs ∧
      (∀ (j : Nat) (x : Value), vs[j]? = some x → w.cell? ⟨b, o + j, none⟩ = some x) := by
  unfold rowsD at hr
  split at hr
  · simp at hr; subst hr
    cases hd with
    | p hd => cases hd; exact .inl ⟨rfl, rfl⟩
  · rename_i rows
    simp at hr; subst hr
    cases hd with
    | p hd =>
    cases hd with
    | lstNil => exact .inl ⟨rfl, rfl⟩
    | lstE => exact .inr (.inl ⟨rfl, ⟨_, _, rfl⟩, _, rfl⟩)
    | lst hk hcap hM hR =>
      rename_i k b o cap c
      refine .inr (.inr ⟨b, o, cap, k, ?_⟩)
      obtain ⟨vs, h1, h2⟩ := cells_list (w := w) (M := M) (env := env) (cs := (rows.map (·.map D.p)).flatten) (b := b) (base := o) (fun q d hq => by
        obtain ⟨i, j, row, rfl, h1, h2⟩ := flatten_get (k := k) (by intro r hr; obtain ⟨r', hr', rfl⟩ := List.mem_map.1 hr; simpa using hk r' hr') q d hq
        simp only [List.getElem?_map, Option.map_eq_some_iff] at h1
        obtain ⟨row', h1, rfl⟩ := h1
        simp only [List.getElem?_map, Option.map_eq_some_iff] at h2
        obtain ⟨p, h2, rfl⟩ := h2
        exact ⟨c i j, by rw [← Nat.add_assoc]; exact h.mem _ _ _ (hM i j row' p h1 h2), .p (hR i j row' p h1 h2)⟩)
      refine ⟨vs, by simp, ?_, h1, h2⟩
      intro r hr
      obtain ⟨r', hr', rfl⟩ := List.mem_map.1 hr
      simpa using hk r' hr'
  · rename_i id k st len cap
    split at hr
    · rename_i rs0 hH
      rw [nth_eq] at hH
      simp at hr; subst hr
      simp only [lenD, Option.some.injEq] at hl
      cases hd with
      | ownNil hen hb hk hc =>
        refine .inl ⟨rfl, ?_⟩
        simp
      | own hen hb hk ho hle hn hc =>
        rename_i blk b o c
        have hobj := h.obj id blk _ hen hH
        simp only [ObjR, hb] at hobj
        obtain ⟨cc, e, fro, q1, q2, q3, q4, q5, q6⟩ := hobj
        refine .inr (.inr ⟨b, o, c, blk.k, ?_⟩)
        have hrows : ∀ r ∈ List.take len (List.drop st rs0), r.length = blk.k := fun r hr => q4 r (List.mem_of_mem_drop (List.mem_of_mem_take hr))
        obtain ⟨vs, h1, h2⟩ := cells_list (w := w) (M := M) (env := env) (cs := (List.take len (List.drop st rs0)).flatten) (b := b) (base := o) (fun q d hq => by
          obtain ⟨i, j, row, rfl, h1, h2⟩ := flatten_get hrows q d hq
          have hi := get_lt h1
          simp at hi
          rw [List.getElem?_take, if_pos (by omega), List.getElem?_drop] at h1
          obtain ⟨x, hx, hr⟩ := obj_cells h hen hH hb h1 j d h2
          refine ⟨x, ?_, hr⟩
          have e1 : o + (i * blk.k + j) = blk.o + (st + i) * blk.k + j := by
            rw [ho (by omega), ← hk, Nat.add_mul]; omega
          rw [e1]; exact hx)
        exact ⟨vs, by rw [← hl], hrows, h1, h2⟩
    · cases hr
  · cases hr

theorem bytesOfD_spec : ∀ {rs : List (List D)} {l : List UInt8}, bytesOfD rs = some l → ∃ ns : List Int, rs = ns.map (fun n => [D.p (.int .u8 n)]) ∧ l = ns.map fun n => UInt8.ofNat n.toNat
  | [], l, h => by simp [bytesOfD] at h; subst h; exact ⟨[], rfl, rfl⟩
  | r :: rs, l, h => by
    simp only [bytesOfD] at h
    cases hb : byteOfD r with
    | none => rw [hb] at h; cases h
    | some b =>
      cases hs : bytesOfD rs with
      | none => rw [hb, hs] at h; cases h
      | some bs =>
        rw [hb, hs] at h
        simp at h; subst h
        obtain ⟨ns, rfl, rfl⟩ := bytesOfD_spec hs
        unfold byteOfD at hb
        split at hb
        · rename_i n
          simp at hb
          exact ⟨n :: ns, rfl, by simp [hb]⟩
        · cases hb
theorem flatten_ones (ns : List Int) : (ns.map (fun n => [D.p (.int .u8 n)])).flatten = ns.map (fun n => D.p (.int .u8 n)) := by
  induction ns with
  | nil => rfl
  | cons n ns ih => simp [ih]

theorem strBytes_ok {s d e : TypeId} {si di : TI} (hs : tyOf Pr s = some si) (hd : tyOf Pr d = some di) (hde : di.tk = .slice e) (he : Pr.underlying e = some (.int .u8)) (h : StH g H M env w) {b : ByteArray} :
    OpOK Pr g M env w ((asVal (convert s d (.string b))).run Pr w) (.val (.own H.length 1 0 b.data.toList.length none) (H ++ [.rows (b.data.toList.map byteRowD)])) := by
  obtain ⟨_, std, _, _, hsu, _, rfl⟩ := tyOf_spec hs
  obtain ⟨_, dtd, _, _, hdu, _, rfl⟩ := tyOf_spec hd
  simp only [] at hde
  obtain rfl := tk_slice hde
  have hlen : b.data.toList.length = b.size := Array.length_toList
  have hcap : b.size ≤ grownCap w b.size 0 e := by unfold grownCap; simp only [Question.cut]; omega
  have hcs : (Lib.bytesCells w e b).size = grownCap w b.size 0 e := by
    unfold Lib.bytesCells
    have : b.data.size = b.size := rfl
    simp [this]; omega
  refine OpOK.move (Lib.run_convert_string_bytes w s d e b hsu hdu he) (Ext.push M env [⟨some w.heap.size, 0, 1, grownCap w b.size 0 e⟩]) ?_ ?_
  · refine ⟨h.ext.trans (Ext.push _ _ _), ?_, ?_⟩
    all_goals
      have hp : StH g (H ++ [.rows (b.data.toList.map byteRowD)]) M (env ++ [⟨some w.heap.size, 0, 1, grownCap w b.size 0 e⟩]) (w.alloc (.cells (Lib.bytesCells w e b) e ((Lib.bytesCells w e b).size, (Lib.bytesCells w e b).size + 1))) := by
        refine h.push (ob := .cells (Lib.bytesCells w e b) e ((Lib.bytesCells w e b).size, (Lib.bytesCells w e b).size + 1)) rfl rfl ?_
        simp only [ObjR]
        refine ⟨_, _, _, heap_alloc_new, by omega, by simp [hlen]; omega, ?_, ?_, .inr (Nat.le_refl _)⟩
        · intro r hr
          obtain ⟨x, hx, rfl⟩ := List.mem_map.1 hr
          rfl
        · intro i j row x hi hj
          simp only [List.getElem?_map, Option.map_eq_some_iff] at hi
          obtain ⟨y, hy, rfl⟩ := hi
          have hj0 : j = 0 := by have := get_lt hj; simp [byteRowD] at this; omega
          subst hj0
          simp [byteRowD] at hj
          subst hj
          have hlt := get_lt hy
          refine ⟨.int .u8 y.toNat, ?_, .p .int⟩
          have h3 : i < b.data.size := by simpa using hlt
          unfold Lib.bytesCells
          rw [show 0 + i * 1 + 0 = i by omega, Array.getElem?_append_left (by simpa using h3)]
          have h4 : b.data[i]? = some y := by simpa using hy
          simp [h4]
      have hheap : ∀ j : Nat, (Lib.bytesWorld w e b).heap[j]? = (w.alloc (.cells (Lib.bytesCells w e b) e ((Lib.bytesCells w e b).size, (Lib.bytesCells w e b).size + 1))).heap[j]? := by
        intro j
        rcases Nat.lt_trichotomy j w.heap.size with hj | hj | hj
        · rw [Lib.bytesWorld_at_old w e b j hj]
          show _ = (w.heap.push _)[j]?
          rw [Array.getElem?_push_lt hj, ← Array.getElem?_eq_getElem]
        · subst hj
          rw [Lib.bytesWorld_at_new, heap_alloc_new]
        · rw [Array.getElem?_eq_none (by rw [Lib.bytesWorld_size]; omega), Array.getElem?_eq_none (by simp; omega)]
      have hp2 := hp.same (w' := Lib.bytesWorld w e b) (Array.ext_getElem? (fun j => hheap j))
    · exact hp2.sim
    · exact hp2.frame
  · have := RdD.own (M := M) (env := env ++ [⟨some w.heap.size, 0, 1, grownCap w b.size 0 e⟩]) (id := H.length) (k := 1) (start := 0) (len := b.data.toList.length) (cap := none)
      (blk := ⟨some w.heap.size, 0, 1, grownCap w b.size 0 e⟩) (b := w.heap.size) (o := 0) (c := grownCap w b.size 0 e) (by rw [← h.sim.len]; simp) rfl rfl (by simp) (by omega) (by simp) (by simp)
    rw [hlen] at this ⊢
    exact this

theorem shape_of {b : Nat} {c : Array Value} {e : TypeId} {fro : Nat × Nat} (hb : w.heap[b]? = some (.cells c e fro)) : w.shape? b = some (e, c.size) := by
  unfold World.shape?
  rw [hb]
theorem mark_ok {id k start len : Nat} {cap : Option Nat} {d e : TypeId} {rs : List (List D)} {a : Value} (hdu : Pr.underlying d = some (.slice e)) (heu : Pr.underlying e = some (.int .u8)) (h : StH g H M env w)
    (ho : nth H id = some (.rows rs)) (hpos : Nat.blt 0 len = true) (hx : RdD M env (.own id k start len cap) a) :
    OpOK Pr g M env w ((asVal (convert d d a)).run Pr w) (.val (.own id k start len cap) H) := by
  have hpos : 0 < len := by simpa using hpos
  have hx0 := hx
  generalize hn : len = n at hx
  cases hx with
  | ownNil => omega
  | own h1 h2 h3 h4 h5 h6 h7 =>
    subst hn
    rename_i blk b o c
    rw [nth_eq] at ho
    have hobj := h.sim.obj _ _ _ h1 ho
    have hobj0 := hobj
    simp only [ObjR, h2] at hobj
    obtain ⟨cs, e', fro, c1, c2, c3, c4, c5, c6⟩ := hobj
    have hlt := h.sim.lt _ _ _ h1 h2
    have hrun : (asVal (convert d d (.slice (some ⟨b, o, none⟩) len c))).run Pr w = .ok (.value (.slice (some ⟨b, o, none⟩) len c)) (w.freeze ⟨b, cs.size, none⟩ 1) := by
      simp [asVal, convert, run_underlying hdu, run_underlying heu, markStringish]
      rw [shape_of c1]
      rfl
    have hset : H.set id (.rows rs) = H := by
      apply List.ext_getElem?
      intro i
      rw [List.getElem?_set]
      split
      · rename_i hi; subst hi; split
        · exact ho.symm
        · rename_i hge; rw [List.getElem?_eq_none (by omega)]
      · rfl
    have hfsz : (w.freeze ⟨b, cs.size, none⟩ 1).heap.size = w.heap.size := by simp [World.freeze]
    have hfold : ∀ b', b' ≠ b → (w.freeze ⟨b, cs.size, none⟩ 1).heap[b']? = w.heap[b']? := fun b' hb' => by
      simp [World.freeze, Array.getElem?_modify, Ne.symm hb']
    have hfnew : ∃ fro', (w.freeze ⟨b, cs.size, none⟩ 1).heap[b]? = some (.cells cs e' fro') ∧ FroOK cs.size fro' := by
      refine ⟨if fro.1 == fro.2 then (cs.size, cs.size + 1) else (min fro.1 cs.size, max fro.2 (cs.size + 1)), ?_, ?_⟩
      · simp [World.freeze, Array.getElem?_modify, c1]
      · split
        · exact .inr (Nat.le_refl _)
        · rename_i hne
          refine .inr ?_
          rcases c6 with q | q
          · simp [q] at hne
          · exact Nat.le_min.2 ⟨q, Nat.le_refl _⟩
    obtain ⟨fro', d1, d2⟩ := hfnew
    have hst : StH g (H.set id (.rows rs)) M env (w.freeze ⟨b, cs.size, none⟩ 1) := by
      refine h.set h1 ho rfl h2 hfsz hfold ?_
      simp only [ObjR, h2]
      exact ⟨cs, e', fro', d1, c2, c3, c4, c5, d2⟩
    rw [hset] at hst
    exact ⟨_, _, M, env, .inl hrun, Ext.refl _ _, hst, hx0⟩
theorem convert_ok {s d : TypeId} {si di : TI} (hs : tyOf Pr s = some si) (hd : tyOf Pr d = some di) (h : StH g H M env w) {x : D} {a : Value} (hx : RdD M env x a) :
    OpOK Pr g M env w ((asVal (convert s d a)).run Pr w) (opConvert (s == d) si di ((elemTI Pr di.tk).map (·.tk)) ((elemTI Pr si.tk).map (·.tk)) x H) := by
  have hs0 := hs
  have hd0 := hd
  obtain ⟨_, std, _, _, hsu, _, rfl⟩ := tyOf_spec hs
  obtain ⟨_, dtd, _, _, hdu, _, rfl⟩ := tyOf_spec hd
  unfold opConvert
  simp only []
  split
  · rename_i k k' n htk
    obtain rfl := tk_int htk
    obtain rfl := int_inv hx
    refine OpOK.same h (v := .int k _) ?_ (.p .int)
    simp [convert, run_underlying hsu, run_underlying hdu, Conv.intToInt]
  · rename_i l htk
    obtain rfl := tk_str htk
    obtain ⟨b, rfl, rfl⟩ := str_inv hx
    refine OpOK.same h (v := .string b) ?_ (.p (.str rfl))
    simp [convert, run_underlying hsu, run_underlying hdu]
  · rename_i e l htk
    split
    · rename_i heq
      simp only [htk, elemTI, Option.map_eq_some_iff] at heq
      obtain ⟨ei, he, heq⟩ := heq
      obtain ⟨b, rfl, rfl⟩ := str_inv hx
      obtain ⟨_, etd, _, _, heu, _, rfl⟩ := tyOf_spec he
      simp only [] at heq
      obtain rfl := tk_int heq
      exact strBytes_ok hs0 hd0 htk heu h
    · trivial
  · rename_i e htk1 htk2 _
    split
    · rename_i rs heq hrows
      simp only [htk1, elemTI, Option.map_eq_some_iff] at heq
      obtain ⟨ei, he, heq⟩ := heq
      obtain ⟨_, etd, _, _, heu, _, rfl⟩ := tyOf_spec he
      simp only [] at heq
      obtain rfl := tk_int heq
      obtain rfl := tk_slice htk1
      obtain rfl := tk_str htk2
      split
      · rename_i l hl
        refine OpOK.pre fun hlen => ?_
        obtain ⟨ns, rfl, rfl⟩ := bytesOfD_spec hl
        rcases rows_read h.sim hx hrows hlen with ⟨rfl, hnil⟩ | ⟨hnil, ⟨a0, cap0, rfl⟩, _⟩ | ⟨b, o, cap, k, vs, rfl, hk, hvs, hcell⟩
        · have : ns = [] := by simpa using hnil
          subst this
          exact OpOK.same h (run_convert_bytes_nil w s e hsu heu 0 0 d hdu) (.p (.str rfl))
        · have : ns = [] := by simpa using hnil
          subst this
          refine OpOK.same h (v := .string ByteArray.empty) ?_ (.p (.str rfl))
          rw [run_convert_bytes_string w s d e _ 0 cap0 hsu heu hdu]
          have := run_loadCells_list (P := Pr) w a0 [] (fun j v hj => by simp at hj)
          simp only [List.length_nil] at this
          simp [Conv.bytesToString, this]
        · rw [flatten_ones] at hvs
          have hvs' : vs = ns.map (Value.int .u8) := by
            apply List.ext_getElem?
            intro j
            cases hj : ns[j]? with
            | none =>
              have h1 : ns.length ≤ j := by
                rcases Nat.lt_or_ge j ns.length with h | h
                · rw [List.getElem?_eq_getElem h] at hj; cases hj
                · exact h
              have h2 : vs.length = ns.length := by have := hvs.1; simpa using this.symm
              rw [List.getElem?_eq_none (by omega), List.getElem?_eq_none (by simpa using h1)]
            | some n =>
              obtain ⟨x, h1, h2⟩ := hvs.get (i := j) (d := .p (.int .u8 n)) (by simp [hj])
              rw [int_inv h2] at h1
              simp [h1, hj]
          subst hvs'
          refine OpOK.same h (run_convert_bytes_arg w s e hsu heu b o _ cap ns (by simp) (fun i hi => ?_) d hdu) (.p (.str (strOfNums_data ns)))
          have hi' : i < ns.length := by simpa using hi
          refine hcell i _ ?_
          simp [List.getD, List.getElem?_eq_getElem hi']
      · trivial
    · trivial
  · rename_i htk1 htk2
    split
    · rename_i hsame heq hnth
      have hsd : s = d := by simpa using hsame
      subst hsd
      simp only [htk2, elemTI, Option.map_eq_some_iff] at heq
      obtain ⟨ei, he, heq⟩ := heq
      obtain ⟨_, etd, _, _, heu, _, rfl⟩ := tyOf_spec he
      simp only [] at heq
      obtain rfl := tk_int heq
      obtain rfl := tk_slice htk2
      cases hb : Nat.blt 0 _ with
      | false => trivial
      | true => exact mark_ok hdu heu h hnth hb hx
    · trivial
  · trivial

theorem pick_ok (h : StH g H M env w) {c x y : D} {vc vx vy : Value} (hc : RdD M env c vc) (hx : RdD M env x vx) (hy : RdD M env y vy) :
    OpOK Pr g M env w ((do pure (Next.value (if ← asBool vc then vx else vy)) : Sem Next).run Pr w) (opPick c x y H) := by
  unfold opPick
  split
  · obtain rfl := bool_inv hc
    exact ⟨vx, w, M, env, .inl (by simp [asBool]), Ext.refl _ _, h, hx⟩
  · obtain rfl := bool_inv hc
    exact ⟨vy, w, M, env, .inl (by simp [asBool]), Ext.refl _ _, h, hy⟩
  · trivial
end Go.Ab
/-
  Each operation does what the abstract machine says: parts of slices, lengths, functions, maps made.
-/
namespace Go.Ab
variable {M : Mem} {env : List Blk} {H : Heap} {w w' : World} {Pr : Program} {g : G}

def OptR (M : Mem) (env : List Blk) : Option D → Option Value → Prop
  | none, none => True
  | some d, some v => RdD M env d v
  | _, _ => False

theorem optD_spec {o : Option Operand} {ρ : Operand → Value} {ds : List D} {rest : List Value} (h : RdL M env ds (o.toList.map ρ ++ rest)) :
    OptR M env (optD o.isSome ds).1 (o.map ρ) ∧ RdL M env (optD o.isSome ds).2 rest := by
  cases o with
  | none => simp at h; cases ds <;> exact ⟨trivial, h⟩
  | some x =>
    simp at h
    cases ds with
    | nil => have := h.1; simp at this
    | cons d ds =>
      obtain ⟨v, vs, e, h1, h2⟩ := h.cons_inv
      simp at e
      obtain ⟨rfl, rfl⟩ := e
      exact ⟨h1, h2⟩

theorem bound_spec {od : Option D} {ov : Option Value} {dflt n : Int} (h : OptR M env od ov) (hb : bound od dflt = some n) : (ov = none ∧ n = dflt) ∨ ∃ k, ov = some (.int k n) := by
  unfold bound at hb
  split at hb
  · cases ov with
    | none => simp at hb; exact .inl ⟨rfl, hb.symm⟩
    | some v => exact h.elim
  · cases ov with
    | none => exact h.elim
    | some v =>
      simp at hb; subst hb
      have : RdD M env _ v := h
      exact .inr ⟨_, by rw [int_inv this]⟩
  · cases hb

theorem run_bound {k : IntKind} {n : Int} {y : Nat} {code : BoundsCode} (h0 : 0 ≤ n) (h1 : n ≤ y) : (Instr.sliceBound (.int k n) y code).run Pr w = .ok n.toNat w := by
  simp [Instr.sliceBound, asIntOf, h0, h1]

/-- The bounds, two typed or not. -/
theorem run_bounds2 {isSlice : Bool} {len cap : Nat} {lo hi : Option Value} {a b : Int} (hlo : (lo = none ∧ a = 0) ∨ ∃ k, lo = some (.int k a)) (hhi : (hi = none ∧ b = len) ∨ ∃ k, hi = some (.int k b))
    (h0 : 0 ≤ a) (h1 : a ≤ b) (h2 : b ≤ len) (hc : len ≤ cap) : (Instr.sliceBounds isSlice len cap lo hi none).run Pr w = .ok (a.toNat, b.toNat, cap) w := by
  rcases hhi with ⟨rfl, rfl⟩ | ⟨kh, rfl⟩
  · rcases hlo with ⟨rfl, rfl⟩ | ⟨kl, rfl⟩
    · simp [Instr.sliceBounds]
    · simp [Instr.sliceBounds, run_bound h0 h1]
  · have hb : ((b.toNat : Nat) : Int) = b := by omega
    rcases hlo with ⟨rfl, rfl⟩ | ⟨kl, rfl⟩
    · simp [Instr.sliceBounds, run_bound (Pr := Pr) (w := w) (k := kh) (n := b) (y := cap) (by omega) (by omega)]
    · simp [Instr.sliceBounds, run_bound (Pr := Pr) (w := w) (k := kh) (n := b) (y := cap) (by omega) (by omega),
        run_bound (Pr := Pr) (w := w) (k := kl) (n := a) (y := b.toNat) h0 (by omega)]
theorem run_bounds3 {len cap : Nat} {lo hi : Option Value} {a b m : Int} {km : IntKind} (hlo : (lo = none ∧ a = 0) ∨ ∃ k, lo = some (.int k a)) (hhi : ∃ k, hi = some (.int k b))
    (h0 : 0 ≤ a) (h1 : a ≤ b) (h2 : b ≤ m) (hc : m ≤ cap) : (Instr.sliceBounds true len cap lo hi (some (.int km m))).run Pr w = .ok (a.toNat, b.toNat, m.toNat) w := by
  obtain ⟨kh, rfl⟩ := hhi
  rcases hlo with ⟨rfl, rfl⟩ | ⟨kl, rfl⟩
  · simp [Instr.sliceBounds, run_bound (Pr := Pr) (w := w) (k := km) (n := m) (y := cap) (by omega) (by omega), run_bound (Pr := Pr) (w := w) (k := kh) (n := b) (y := m.toNat) (by omega) (by omega)]
  · simp [Instr.sliceBounds, run_bound (Pr := Pr) (w := w) (k := km) (n := m) (y := cap) (by omega) (by omega), run_bound (Pr := Pr) (w := w) (k := kh) (n := b) (y := m.toNat) (by omega) (by omega),
      run_bound (Pr := Pr) (w := w) (k := kl) (n := a) (y := b.toNat) h0 (by omega)]

theorem slice_len {d : D} {v : Value} {n : Nat} (hd : RdD M env d v) (hn : lenD d = some n) : ∃ a c, v = .slice a n c ∧ n ≤ c := by
  unfold lenD at hn
  split at hn
  · simp at hn; subst hn; cases hd with | p hd => cases hd; exact ⟨none, 0, rfl, Nat.le_refl _⟩
  · simp at hn; subst hn
    cases hd with
    | p hd =>
      cases hd with
      | lstNil => exact ⟨none, 0, rfl, Nat.le_refl _⟩
      | lstE => exact ⟨_, _, rfl, Nat.zero_le _⟩
      | lst hk hcap hM hR => exact ⟨_, _, rfl, hcap⟩
  · simp at hn; subst hn
    cases hd with
    | ownNil => exact ⟨none, 0, rfl, Nat.le_refl _⟩
    | own a1 a2 a3 a4 a5 a6 a7 => exact ⟨_, _, rfl, a5⟩
  · cases hn

/-- How a slice of a slice is run: once its bounds are known. -/
theorem run_slice_known {t e : TypeId} {ei : TypeInfo} (hu : Pr.underlying t = some (.slice e)) (he : Pr.info? e = some ei) {base : Option Addr} {len cap l hh m : Nat} {lo hi mx : Option Value}
    (hb : (Instr.sliceBounds true len cap lo hi mx).run Pr w = .ok (l, hh, m) w) :
    (Instr.sliceAt t (.slice base len cap) lo hi mx).run Pr w = .ok (.slice (if m = l then base else base.map (·.add (l * ei.size))) (hh - l) (m - l)) w := by
  simp [Instr.sliceAt, Instr.slice, run_underlying hu, hb, run_sizeOf he]

theorem slice_ok {t : TypeId} {ti : TI} (ht : tyOf Pr t = some ti) (h : StH g H M env w) {x : D} {lo hi mx : Option D} {v : Value} {lv hv mv : Option Value}
    (hx : RdD M env x v) (hlo : OptR M env lo lv) (hhi : OptR M env hi hv) (hmx : OptR M env mx mv) {size : Nat} (he : ∀ e, ti.tk = .slice e → ∃ ei, tyOf Pr e = some ei ∧ size = ei.size) :
    OpOK Pr g M env w ((asVal (Instr.sliceAt t v lv hv mv)).run Pr w) (opSliceAt ti.tk size x lo hi mx H) := by
  obtain ⟨inf, td, z, hinf, hu, hz, rfl⟩ := tyOf_spec ht
  unfold opSliceAt
  simp only [] at he ⊢
  split
  · rename_i l htk
    obtain rfl := tk_str htk
    split
    · rename_i a b h1 h2
      cases mv with
      | some m => exact hmx.elim
      | none =>
      refine OpOK.pre fun ⟨q0, q1, q2⟩ => ?_
      obtain ⟨s, rfl, rfl⟩ := str_inv hx
      have hsz : s.data.toList.length = s.size := Array.length_toList
      have hb := run_bounds2 (Pr := Pr) (w := w) (isSlice := false) (len := s.size) (cap := s.size) (bound_spec hlo h1) (by rw [← hsz]; exact bound_spec hhi h2) q0 q1 (by omega) (Nat.le_refl _)
      refine OpOK.same h (v := .string (s.extract a.toNat b.toNat)) ?_ (.p (.str ?_))
      · simp [Instr.sliceAt, Instr.slice, run_underlying hu, hb]
      · simp [List.drop_take]
    · trivial
  · rename_i e htk
    obtain rfl := tk_slice htk
    split
    · rename_i a b h1 h2
      cases mv with
      | some m => exact hmx.elim
      | none =>
      refine OpOK.pre fun ⟨q0, q1, q2⟩ => ?_
      cases hx with
      | p hx =>
      cases hx
      have hb := run_bounds2 (Pr := Pr) (w := w) (isSlice := true) (len := 0) (cap := 0) (bound_spec hlo h1) (bound_spec hhi h2) q0 q1 (by omega) (Nat.le_refl _)
      obtain ⟨ei, hei, rfl⟩ := he e htk
      · obtain ⟨einf, _, _, heinf, _, _, rfl⟩ := tyOf_spec hei
        refine OpOK.same h (run_slice_known hu heinf hb) (.p ?_)
        have ha : a.toNat = 0 := by omega
        have hbb : b.toNat = 0 := by omega
        rw [ha, hbb]
        exact .nil
    · trivial
  · rename_i e rows htk
    have htk' := htk
    obtain rfl := tk_slice htk
    split
    · rename_i a b h1 h2
      cases mv with
      | some m => exact hmx.elim
      | none =>
      refine OpOK.pre fun ⟨q0, q1, q2, hrl⟩ => ?_
      obtain ⟨ei, hei, rfl⟩ := he e htk'
      · obtain ⟨einf, _, _, heinf, _, _, rfl⟩ := tyOf_spec hei
        cases hx with
        | p hx =>
        cases hx with
        | lstNil =>
          have hb := run_bounds2 (Pr := Pr) (w := w) (isSlice := true) (len := 0) (cap := 0) (bound_spec hlo h1) (by simpa using bound_spec hhi h2) q0 q1 (by simpa using q2) (Nat.le_refl _)
          refine OpOK.same h (run_slice_known hu heinf hb) (.p ?_)
          simp at q2
          have ha : a.toNat = 0 := by omega
          have hbb : b.toNat = 0 := by omega
          rw [ha, hbb]
          exact .lstNil
        | @lstE a1 cap1 =>
          have hb := run_bounds2 (Pr := Pr) (w := w) (isSlice := true) (len := 0) (cap := cap1) (bound_spec hlo h1) (by simpa using bound_spec hhi h2) q0 q1 (by simpa using q2) (Nat.zero_le _)
          refine OpOK.same h (run_slice_known hu heinf hb) (.p ?_)
          simp at q2
          have ha : a.toNat = 0 := by omega
          have hbb : b.toNat = 0 := by omega
          rw [ha, hbb]
          split
          · exact .lstE
          · exact .lstE
        | lst hkk hcap hM hR =>
          rename_i k bb o cap c
          have hb := run_bounds2 (Pr := Pr) (w := w) (isSlice := true) (len := rows.length) (cap := cap) (bound_spec hlo h1) (bound_spec hhi h2) q0 q1 q2 hcap
          refine OpOK.same h (run_slice_known hu heinf hb) (.p ?_)
          have hlen : ((rows.take b.toNat).drop a.toNat).length = b.toNat - a.toNat := by simp; omega
          by_cases hca : cap = a.toNat
          · have : (rows.take b.toNat).drop a.toNat = [] := List.length_eq_zero_iff.1 (by rw [hlen]; omega)
            rw [this, if_pos hca, show b.toNat - a.toNat = ([] : List (List P)).length by simp; omega]
            exact RdP.lst (k := 0) (c := fun _ _ => undef) (by simp) (by simp) (by simp) (by simp)
          · have hget : ∀ (i : Nat) (row : List P), ((rows.take b.toNat).drop a.toNat)[i]? = some row → rows[a.toNat + i]? = some row := by
              intro i row hi
              rw [List.getElem?_drop, List.getElem?_take] at hi
              split at hi
              · exact hi
              · cases hi
            rw [if_neg hca, ← hlen]
            simp only [Option.map_some, addr_add]
            refine RdP.lst (k := k) (c := fun i j => c (a.toNat + i) j) (fun r hr => hkk r (List.mem_of_mem_take (List.mem_of_mem_drop hr))) (by rw [hlen]; omega) (fun i j row p hi hj => ?_) (fun i j row p hi hj => hR _ _ _ _ (hget i row hi) hj)
            have := hM _ _ _ _ (hget i row hi) hj
            have hke : k = einf.size := by
              have hm := List.mem_of_getElem? (hget i row hi)
              rw [← hkk row hm, hrl row hm]
            rw [← this]
            congr 1
            rw [Nat.add_mul, ← hke]; omega
    · trivial
  · rename_i e id k st len cap htk
    have htk' := htk
    obtain rfl := tk_slice htk
    obtain ⟨ei, hei, rfl⟩ := he e htk'
    cases hkb : (k == ei.size) with
    | false => trivial
    | true =>
      have hkk : k = ei.size := by simpa using hkb
      obtain ⟨einf, _, _, heinf, _, _, rfl⟩ := tyOf_spec hei
      simp only [] at hkk
      simp only [cond_true]
      split
      · rename_i a b h1 h2
        cases mv with
        | some m => exact hmx.elim
        | none =>
        refine OpOK.pre fun ⟨q0, q1, q2⟩ => ?_
        cases hx with
        | ownNil a1 a2 a3 a4 =>
          have hb := run_bounds2 (Pr := Pr) (w := w) (isSlice := true) (len := 0) (cap := 0) (bound_spec hlo h1) (bound_spec hhi h2) q0 q1 q2 (Nat.le_refl _)
          refine OpOK.same h (run_slice_known hu heinf hb) ?_
          have ha : a.toNat = 0 := by omega
          have hbb : b.toNat = 0 := by omega
          rw [ha, hbb]
          exact RdD.ownNil a1 a2 a3 (fun c' hc' => by cases cap <;> simp at hc'; rename_i cc; have := a4 cc rfl; omega)
        | own a1 a2 a3 a4 a5 a6 a7 =>
          rename_i blk bb o c
          have hb := run_bounds2 (Pr := Pr) (w := w) (isSlice := true) (len := len) (cap := c) (bound_spec hlo h1) (bound_spec hhi h2) q0 q1 q2 a5
          refine OpOK.same h (run_slice_known hu heinf hb) ?_
          have hcap' : ∀ c', cap.map (· - a.toNat) = some c' → c' = c - a.toNat := fun c' hc' => by cases cap <;> simp at hc'; rename_i cc; have := a7 cc rfl; omega
          by_cases hca : c = a.toNat
          · rw [if_pos hca]
            exact RdD.own a1 a2 a3 (fun hne => by omega) (by omega) (by rw [show st + a.toNat + (c - a.toNat) = st + c by omega]; exact a6) hcap'
          · rw [if_neg hca]
            simp only [Option.map_some, addr_add]
            exact RdD.own a1 a2 a3 (fun hne => by rw [a4 (by omega), Nat.add_mul, ← hkk]; omega) (by omega) (by rw [show st + a.toNat + (c - a.toNat) = st + c by omega]; exact a6) hcap'
      · rename_i m a b h1 h2
        split
        · rename_i mm hd hm
          refine OpOK.pre fun ⟨q0, q1, q2, q3⟩ => ?_
          cases mv with
          | none => exact hmx.elim
          | some mvv =>
          cases hv with
          | none => exact hhi.elim
          | some hvv =>
          obtain ⟨km, hmv⟩ : ∃ k, mvv = .int k mm := by
            rcases bound_spec (M := M) (env := env) (ov := some mvv) hmx hm with ⟨h1, _⟩ | ⟨k, h1⟩
            · cases h1
            · exact ⟨k, by simpa using h1⟩
          subst hmv
          have hhv : ∃ k, some hvv = some (Value.int k b) := by
            rcases bound_spec hhi h2 with ⟨h1, _⟩ | ⟨k, h1⟩
            · cases h1
            · exact ⟨k, h1⟩
          cases hx with
          | ownNil a1 a2 a3 a4 =>
            have hb := run_bounds3 (Pr := Pr) (w := w) (len := 0) (cap := 0) (km := km) (bound_spec hlo h1) hhv q0 q1 q2 (by omega)
            refine OpOK.same h (run_slice_known hu heinf hb) ?_
            have ha : a.toNat = 0 := by omega
            have hbb : b.toNat = 0 := by omega
            have hmm : mm.toNat = 0 := by omega
            rw [ha, hbb, hmm]
            exact RdD.ownNil a1 a2 a3 (fun c' hc' => by simp at hc'; omega)
          | own a1 a2 a3 a4 a5 a6 a7 =>
            rename_i blk bb o c
            have hb := run_bounds3 (Pr := Pr) (w := w) (len := len) (cap := c) (km := km) (bound_spec hlo h1) hhv q0 q1 q2 (by omega)
            refine OpOK.same h (run_slice_known hu heinf hb) ?_
            have hle : (st + a.toNat + (mm.toNat - a.toNat)) * k ≤ blk.n := by
              refine Nat.le_trans (Nat.mul_le_mul_right k ?_) a6
              omega
            by_cases hca : mm.toNat = a.toNat
            · rw [if_pos hca]
              exact RdD.own a1 a2 a3 (fun hne => by omega) (by omega) hle (fun c' hc' => by simp at hc'; omega)
            · rw [if_neg hca]
              simp only [Option.map_some, addr_add]
              exact RdD.own a1 a2 a3 (fun hne => by rw [a4 (by omega), Nat.add_mul, ← hkk]; omega) (by omega) hle (fun c' hc' => by simp at hc'; omega)
        · trivial
      · trivial
  · trivial

theorem len_ok {t ty : TypeId} {ti : TI} (ht : tyOf Pr t = some ti) (h : StH g H M env w) {x : D} {v : Value} (hx : RdD M env x v) :
    OpOK Pr g M env w ((asVal (Builtin.len_ #[t] ty #[v])).run Pr w) (opLen ti.tk x H) := by
  obtain ⟨inf, td, z, hinf, hu, hz, rfl⟩ := tyOf_spec ht
  unfold opLen
  simp only []
  split
  · rename_i l htk
    obtain rfl := tk_str htk
    obtain ⟨s, rfl, rfl⟩ := str_inv hx
    have hsz : s.data.toList.length = s.size := Array.length_toList
    refine OpOK.same h (v := goInt s.size) ?_ (by rw [hsz]; exact .p .int)
    simp [Builtin.len_, run_underlying hu]
  · rename_i n e htk
    obtain rfl := tk_array htk
    refine OpOK.same h (v := goInt n) ?_ (.p .int)
    simp [Builtin.len_, run_underlying hu]
  · rename_i e htk
    obtain rfl := tk_slice htk
    split
    · rename_i n hn
      obtain ⟨a, c, rfl, _⟩ := slice_len hx hn
      refine OpOK.same h (v := goInt n) ?_ (.p .int)
      simp [Builtin.len_, run_underlying hu]
    · trivial
  · rename_i k e id htk
    obtain rfl := tk_map htk
    split
    · rename_i es bs ck hH
      rw [nth_eq] at hH
      cases hx with
      | mp hen hb =>
        rename_i blk b
        obtain ⟨b', hb', ents, h1, h2, h4, h3⟩ := h.sim.obj id blk _ hen hH
        rw [hb] at hb'; simp at hb'; subst hb'
        refine OpOK.same h (v := goInt ents.size) ?_ (by rw [h2]; exact .p .int)
        have hg : (getObj b).run Pr w = .ok (.map ents ck) w := by simp [getObj, Sem.run, h1]
        simp [Builtin.len_, run_underlying hu, hg]
    · trivial
  · trivial

theorem cap_ok {t ty : TypeId} {ti : TI} (ht : tyOf Pr t = some ti) (h : StH g H M env w) {x : D} {v : Value} (hx : RdD M env x v) :
    OpOK Pr g M env w ((asVal (Builtin.cap_ #[t] ty #[v])).run Pr w) (opCap ti.tk x H) := by
  obtain ⟨inf, td, z, hinf, hu, hz, rfl⟩ := tyOf_spec ht
  unfold opCap
  simp only []
  split
  · rename_i e htk
    obtain rfl := tk_slice htk
    cases hx with
    | p hx =>
    cases hx
    refine OpOK.same h (v := goInt 0) ?_ (.p .int)
    simp [Builtin.cap_, run_underlying hu]
  · rename_i e id k st len c htk
    obtain rfl := tk_slice htk
    cases hx with
    | ownNil a1 a2 a3 a4 =>
      have := a4 c rfl
      subst this
      refine OpOK.same h (v := goInt 0) ?_ (.p .int)
      simp [Builtin.cap_, run_underlying hu]
    | own a1 a2 a3 a4 a5 a6 a7 =>
      rename_i blk b o c'
      have := a7 c rfl
      subst this
      refine OpOK.same h (v := goInt c) ?_ (.p .int)
      simp [Builtin.cap_, run_underlying hu]
  · trivial

theorem min_ok {ts : Array TypeId} {ty : TypeId} (h : StH g H M env w) {ds : List D} {vs : List Value} (hx : RdL M env ds vs) :
    OpOK Pr g M env w ((asVal (Builtin.min_ ts ty vs.toArray)).run Pr w) (opMinMax false ds H) := by
  unfold opMinMax
  split
  · obtain ⟨v, vs', rfl, h1, h2⟩ := hx.cons_inv
    obtain ⟨u, vs'', rfl, h3, h4⟩ := h2.cons_inv
    obtain rfl := h4.nil_inv
    obtain rfl := int_inv h1
    obtain rfl := int_inv h3
    exact OpOK.same h (v := .int _ _) (run_min_int2 w ts ty _ _ _ _) (.p .int)
  · trivial
theorem max_ok {ts : Array TypeId} {ty : TypeId} (h : StH g H M env w) {ds : List D} {vs : List Value} (hx : RdL M env ds vs) :
    OpOK Pr g M env w ((asVal (Builtin.max_ ts ty vs.toArray)).run Pr w) (opMinMax true ds H) := by
  unfold opMinMax
  split
  · obtain ⟨v, vs', rfl, h1, h2⟩ := hx.cons_inv
    obtain ⟨u, vs'', rfl, h3, h4⟩ := h2.cons_inv
    obtain rfl := h4.nil_inv
    obtain rfl := int_inv h1
    obtain rfl := int_inv h3
    exact OpOK.same h (v := .int _ _) (run_max_int2 w ts ty _ _ _ _) (.p .int)
  · trivial

theorem makeMap_ok {t : TypeId} (h : StH g H M env w) : OpOK Pr g M env w ((asVal (Instr.makeMap t none)).run Pr w) (.val (.mp H.length) (H ++ [.map [] [] 0])) := by
  refine OpOK.move (v := .map (some w.heap.size)) (w' := w.alloc (.map #[] 0)) (env' := env ++ [⟨some w.heap.size, 0, 0, 0⟩]) (by simp [Instr.makeMap]) (Ext.push _ _ _) ?_ ?_
  · exact h.push (ob := .map #[] 0) rfl rfl ⟨w.heap.size, rfl, #[], heap_alloc_new, rfl, rfl, fun i k d m h1 => by simp at h1⟩
  · exact RdD.mp (blk := ⟨some w.heap.size, 0, 0, 0⟩) (by rw [← h.sim.len]; simp) rfl

theorem makeFunc_ok (h : StH g H M env w) {f : Fn} {n : Nat} {ds a : List D} {vf vc : List Value} (hx : RdL M env ds (vf ++ vc)) (hn : n = vf.length) (ha : takeN n ds = some a) :
    OpOK Pr g M env w ((asVal (Instr.makeFunc f vf.toArray vc.toArray)).run Pr w) (.val (.fn f a (dropN n ds)) H) := by
  obtain ⟨rfl, hlen⟩ := takeN_eq ha
  rw [dropN_eq]
  subst hn
  have hl := hx.1
  simp at hl
  refine OpOK.same h (v := .func f vf.toArray vc.toArray) rfl (.fn (by simp; omega) (by simp; omega) (fun i c x h1 h2 => ?_) (fun i c x h1 h2 => ?_))
  · rw [List.getElem?_take] at h1
    split at h1
    · rename_i hi
      exact hx.2 i c x h1 (by rw [List.getElem?_append_left hi]; simpa using h2)
    · cases h1
  · rw [List.getElem?_drop] at h1
    exact hx.2 _ c x h1 (by rw [List.getElem?_append_right (by omega), show vf.length + i - vf.length = i by omega]; simpa using h2)

theorem makeIface_ok {t : TypeId} {ti : TI} (ht : tyOf Pr t = some ti) (hn : ti.tk ≠ .iface) (h : StH g H M env w) {x : D} {v : Value} (hx : RdD M env x v) :
    OpOK Pr g M env w ((asVal (Instr.makeInterface t v)).run Pr w) (.val (.iface t x) H) := by
  obtain ⟨inf, td, z, hinf, hu, hz, rfl⟩ := tyOf_spec ht
  refine OpOK.same h (v := .iface t v) ?_ (.iface hx)
  simp only [Instr.makeInterface, Sem.run_bind, run_underlying hu, Result.andThen_ok]
  cases td <;> first | rfl | (exact absurd rfl hn)
end Go.Ab
/-
  Each operation does what the abstract machine says: structs and slices made of parts.
-/
namespace Go.Ab
variable {M : Mem} {env : List Blk} {H : Heap} {w w' : World} {Pr : Program} {g : G}

theorem fold_set {off : Nat} : ∀ (vs : List Value) (k : Nat) (cs : Array Value), off + k + vs.length ≤ cs.size →
    ((vs.zipIdx k).foldl (fun cs (x : Value × Nat) => cs.setIfInBounds (off + x.2) x.1) cs).size = cs.size ∧
    ∀ j : Nat, ((vs.zipIdx k).foldl (fun cs (x : Value × Nat) => cs.setIfInBounds (off + x.2) x.1) cs)[j]? = if off + k ≤ j ∧ j < off + k + vs.length then vs[j - (off + k)]? else cs[j]?
  | [], k, cs, _ => ⟨rfl, fun j => by rw [if_neg (by simp)]; rfl⟩
  | v :: vs, k, cs, h => by
    have h' : off + (k + 1) + vs.length ≤ (cs.setIfInBounds (off + k) v).size := by simp at h ⊢; omega
    obtain ⟨a, b⟩ := fold_set (off := off) vs (k + 1) (cs.setIfInBounds (off + k) v) h'
    refine ⟨by simpa using a, fun j => ?_⟩
    rw [List.zipIdx_cons, List.foldl_cons, b j]
    by_cases h0 : j = off + k
    · subst h0
      rw [if_neg (by omega), if_pos (by simp), Array.getElem?_setIfInBounds, if_pos rfl, if_pos (by simp at h; omega)]
      simp
    · by_cases h2 : off + (k + 1) ≤ j ∧ j < off + (k + 1) + vs.length
      · rw [if_pos h2, if_pos (by simp; omega), show j - (off + k) = (j - (off + (k + 1))) + 1 by omega]
        simp
      · rw [if_neg h2, if_neg (by simp; omega), Array.getElem?_setIfInBounds, if_neg (by omega)]

theorem RdL.put {cells cells' cs : List D} {c : Array Value} {vs : Array Value} {off : Nat} (h : RdL M env cells c.toList) (hv : RdL M env cs vs.toList) (hp : putCells cells off cs = some cells')
    (hoff : off + vs.size ≤ c.size) : RdL M env cells' (vs.zipIdx.foldl (fun cs (x : Value × Nat) => cs.setIfInBounds (off + x.2) x.1) c).toList := by
  obtain ⟨a1, a2, a3, a4, a5⟩ := putCells_spec hp
  have hvl : cs.length = vs.size := by have := hv.1; simpa using this
  have hcl : cells.length = c.size := by have := h.1; simpa using this
  have hf := fold_set (off := off) vs.toList 0 c (by simpa using hoff)
  have heq : vs.zipIdx.foldl (fun cs (x : Value × Nat) => cs.setIfInBounds (off + x.2) x.1) c = (vs.toList.zipIdx 0).foldl (fun cs (x : Value × Nat) => cs.setIfInBounds (off + x.2) x.1) c := by
    rw [← Array.foldl_toList]; simp [Array.toList_zipIdx]
  rw [heq]
  refine ⟨by have := hf.1; simp; omega, fun i d x h1 h2 => ?_⟩
  have h2' : ((vs.toList.zipIdx 0).foldl (fun cs (x : Value × Nat) => cs.setIfInBounds (off + x.2) x.1) c)[i]? = some x := by simpa using h2
  rw [hf.2 i] at h2'
  rw [a5 i] at h1
  by_cases hin : off ≤ i ∧ i < off + cs.length
  · rw [if_pos hin] at h1
    rw [if_pos (by simp; omega)] at h2'
    exact hv.2 _ d x h1 (by simpa using h2')
  · rw [if_neg hin] at h1
    rw [if_neg (by simp; omega)] at h2'
    exact h.2 i d x h1 (by simpa using h2')

theorem fillD_ok {place : Nat → Option (Nat × Nat)} : ∀ {is : List Nat} {ds : List D} {vs : List Value} {cells cells' : List D} {c : Array Value}, RdL M env cells c.toList → RdL M env ds vs →
    is.length = vs.length → fillD place cells is ds = some cells' → ∃ c' : Array Value, Instr.fill place c (is.zip vs) = some c' ∧ RdL M env cells' c'.toList
  | [], ds, vs, cells, cells', c, hc, hd, hl, h => by
    have : vs = [] := List.length_eq_zero_iff.1 (by simpa using hl.symm)
    subst this
    cases ds with
    | nil => simp [fillD] at h; subst h; exact ⟨c, rfl, hc⟩
    | cons d ds => simp [fillD] at h
  | i :: is, ds, vs, cells, cells', c, hc, hd, hl, h => by
    cases ds with
    | nil => simp [fillD] at h
    | cons d ds =>
      obtain ⟨v, vs', rfl, hv, hs⟩ := hd.cons_inv
      simp only [fillD] at h
      split at h
      · rename_i off size cs hp hcs
        cases hsz : (cs.length == size && Nat.ble (off + size) cells.length) with
        | false => rw [hsz] at h; simp at h
        | true =>
          rw [hsz] at h
          simp only [cond_true] at h
          split at h
          · rename_i cells1 hput
            have hvc := RdL_cellsOf hv hcs
            have hvl : cs.length = v.cells.size := by have := hvc.1; simpa using this
            have hcl : cells.length = c.size := by have := hc.1; simpa using this
            simp only [Bool.and_eq_true, beq_iff_eq, Nat.ble_eq] at hsz
            have hsz' : cs.length = size := hsz.1
            obtain ⟨a1, a2, a3, a4, a5⟩ := putCells_spec hput
            have hemp : off + v.cells.size ≤ c.size := by omega
            obtain ⟨c', h1, h2⟩ := fillD_ok (hc.put hvc hput hemp) hs (by simpa using hl) h
            refine ⟨c', ?_, h2⟩
            simp only [List.zip_cons_cons, Instr.fill, hp]
            rw [if_neg (by simp; omega)]
            exact h1
          · cases h
      · cases h

theorem run_places : ∀ (fs : List Field) {ps : List (Nat × Nat)}, placesS Pr (fs.map fun f => (f.offset, f.type)) = some ps →
    (fs.mapM (m := Sem) fun f => do pure (f.offset, ← sizeOf f.type)).run Pr w = .ok ps w
  | [], ps, h => by simp [placesS] at h; subst h; rfl
  | f :: fs, ps, h => by
    simp only [List.map_cons, placesS] at h
    cases ht : tyOf Pr f.type with
    | none => rw [ht] at h; cases h
    | some ti =>
      rw [ht] at h
      simp only [] at h
      cases hp : placesS Pr (fs.map fun f => (f.offset, f.type)) with
      | none => rw [hp] at h; cases h
      | some ps' =>
        rw [hp] at h
        simp at h; subst h
        obtain ⟨i, _, _, hi, _, _, rfl⟩ := tyOf_spec ht
        have ih := run_places fs hp
        simp only [List.mapM_cons, Sem.run_bind, run_sizeOf hi, Result.andThen_ok, Sem.run_pure, ih]

theorem zeroCells_rd {t : TypeId} {ti : TI} (ht : tyOf Pr t = some ti) : ∃ z : Value, (∀ w, (zeroValue t).run Pr w = .ok z w) ∧ ∀ cs, cellsOf (.p ti.zero) = some cs → RdL M env cs z.cells.toList := by
  obtain ⟨i, td, z, hi, hu, hz, rfl⟩ := tyOf_spec ht
  exact ⟨z, fun w => run_zeroValue hi hz w, fun cs hcs => RdL_cellsOf (.p (RdP_constP z)) hcs⟩

theorem build_ok {t : TypeId} {ti : TI} (ht : tyOf Pr t = some ti) (h : StH g H M env w) {is : List Nat} {ds : List D} {vs : List Value} (hx : RdL M env ds vs) (hl : is.length = vs.length) :
    OpOK Pr g M env w ((asVal (Instr.build t (is.zip vs).toArray)).run Pr w) (opBuild Pr ti is ds H) := by
  have ht0 := ht
  obtain ⟨i, td, z, hi, hu, hz, rfl⟩ := tyOf_spec ht
  unfold opBuild zeroCells
  simp only []
  cases hzc : cellsOf (.p (constP z)) with
  | none => trivial
  | some zc =>
  have hzr : RdL M env zc z.cells.toList := RdL_cellsOf (.p (RdP_constP z)) hzc
  simp only []
  split
  · rename_i fs htk
    obtain ⟨a, rfl, rfl⟩ := tk_struct htk
    split
    · rename_i ps hps
      split
      · rename_i cs hcs
        obtain ⟨c', h1, h2⟩ := fillD_ok hzr hx hl hcs
        refine OpOK.same h (v := .agg c') ?_ ?_
        · have hpl := run_places (Pr := Pr) (w := w) a.toList hps
          simp only [Instr.build, Sem.run_bind, run_zeroValue hi hz, Result.andThen_ok, run_underlying hu]
          rw [Array.mapM_eq_mapM_toList]
          simp only [Sem.run_map, hpl, Result.andThen_ok]
          have h3 : Instr.fill (fun x => ps[x]?) z.cells (is.zip vs) = some c' := by rw [← h1]; congr 1; funext x; exact (nth_eq ps x).symm
          simp [h3]
        · have := RdD_mkAgg h2
          rwa [Array.toArray_toList] at this
      · trivial
    · trivial
  · rename_i n e htk
    obtain rfl := tk_array htk
    split
    · rename_i ei hei
      obtain ⟨einf, _, _, heinf, _, _, rfl⟩ := tyOf_spec hei
      split
      · rename_i cs hcs
        obtain ⟨c', h1, h2⟩ := fillD_ok hzr hx hl hcs
        refine OpOK.same h (v := .agg c') ?_ ?_
        · simp [Instr.build, run_zeroValue hi hz, run_underlying hu, run_sizeOf heinf, h1]
        · have := RdD_mkAgg h2
          rwa [Array.toArray_toList] at this
      · trivial
    · trivial
  · trivial
end Go.Ab
/-
  Each operation does what the abstract machine says: rows made.
-/
namespace Go.Ab
variable {M : Mem} {env : List Blk} {H : Heap} {w w' : World} {Pr : Program} {g : G}

/-- Rows as they lie in cells, from the first on. -/
structure RowsR (M : Mem) (env : List Blk) (size : Nat) (rs : List (List D)) (c : Array Value) : Prop where
  len : rs.length * size ≤ c.size
  all : ∀ r ∈ rs, r.length = size
  at_ : ∀ (i j : Nat) (row : List D) (d : D), rs[i]? = some row → row[j]? = some d → ∃ x, c[i * size + j]? = some x ∧ RdD M env d x

theorem RowsR.mono {M' : Mem} {env' : List Blk} {size : Nat} {rs : List (List D)} {c : Array Value} (h : RowsR M env size rs c) (he : Ext M env M' env') : RowsR M' env' size rs c :=
  ⟨h.len, h.all, fun i j row d h1 h2 => let ⟨x, hx, hd⟩ := h.at_ i j row d h1 h2; ⟨x, hx, hd.mono he⟩⟩

theorem RowsR.obj {size : Nat} {rs : List (List D)} {c : Array Value} {b : Nat} {e : TypeId} (h : RowsR M env size rs c) {n : Nat} (hn : n ≤ c.size) (hrn : rs.length * size ≤ n) (hb : w.heap[b]? = some (.cells c e (0, 0))) :
    ObjR M env w ⟨some b, 0, size, n⟩ (.rows rs) := by
  simp only [ObjR]
  exact ⟨c, e, (0, 0), hb, by omega, hrn, h.all, fun i j row d h1 h2 => by rw [Nat.zero_add]; exact h.at_ i j row d h1 h2, .inl rfl⟩

theorem RowsR.zero {size len : Nat} {zc : List D} {z : Array Value} (hz : RdL M env zc z.toList) (hs : zc.length = size) :
    RowsR M env size (List.replicate len zc) ((Array.range (len * size)).map (z[· % z.size]!)) := by
  have hzs : z.size = size := by have := hz.1; simp at this; omega
  refine ⟨by simp, fun r hr => by rw [(List.mem_replicate.1 hr).2]; exact hs, fun i j row d h1 h2 => ?_⟩
  have hi : i < len := by have := get_lt h1; simpa using this
  rw [List.getElem?_replicate, if_pos hi] at h1
  simp at h1; subst h1
  have hj : j < size := by have := get_lt h2; omega
  have hlt := row_le hj hi
  obtain ⟨x, hx, hd⟩ := hz.get h2
  refine ⟨x, ?_, hd⟩
  have hmod : (i * size + j) % size = j := by rw [Nat.mul_comm, Nat.mul_add_mod, Nat.mod_eq_of_lt hj]
  have hx' : z[j]? = some x := by simpa using hx
  have hjz : j < z.size := by omega
  simp [hlt, hzs, hmod]
  rw [getElem!_pos z j hjz]
  rw [Array.getElem?_eq_getElem hjz] at hx'
  simpa using hx'

theorem RowsR.put {size : Nat} {rs : List (List D)} {c : Array Value} (h : RowsR M env size rs c) {i : Nat} {cs : List D} {vs : Array Value} (hv : RdL M env cs vs.toList) (hcs : cs.length = size) (hi : i < rs.length) :
    RowsR M env size (rs.set i cs) (vs.zipIdx.foldl (fun cs (x : Value × Nat) => cs.setIfInBounds (i * size + x.2) x.1) c) := by
  have hvl : cs.length = vs.size := by have := hv.1; simpa using this
  have hend : i * size + size ≤ rs.length * size := by
    have := Nat.mul_le_mul_right size (show i + 1 ≤ rs.length by omega)
    rw [Nat.add_mul] at this; omega
  have hl := h.len
  have hf := fold_set (off := i * size) vs.toList 0 c (by simp; omega)
  have heq : vs.zipIdx.foldl (fun cs (x : Value × Nat) => cs.setIfInBounds (i * size + x.2) x.1) c = (vs.toList.zipIdx 0).foldl (fun cs (x : Value × Nat) => cs.setIfInBounds (i * size + x.2) x.1) c := by
    rw [← Array.foldl_toList]; simp [Array.toList_zipIdx]
  rw [heq]
  refine ⟨by rw [hf.1]; simpa using hl, fun r hr => ?_, fun i' j row d h1 h2 => ?_⟩
  · obtain ⟨q, hq⟩ := mem_get hr
    by_cases hqi : i = q
    · subst hqi; rw [List.getElem?_set_self hi] at hq; simp at hq; subst hq; exact hcs
    · rw [List.getElem?_set_ne hqi] at hq; exact h.all r (List.mem_of_getElem? hq)
  · rw [hf.2]
    by_cases hqi : i = i'
    · subst hqi
      rw [List.getElem?_set_self hi] at h1; simp at h1; subst h1
      have hj := get_lt h2
      rw [if_pos (by simp; omega)]
      obtain ⟨x, hx, hd⟩ := hv.get h2
      exact ⟨x, by rw [← hx]; congr 1; omega, hd⟩
    · rw [List.getElem?_set_ne hqi] at h1
      have hj : j < size := by have := get_lt h2; have := h.all row (List.mem_of_getElem? h1); omega
      rw [if_neg]
      · exact h.at_ i' j row d h1 h2
      · rintro ⟨q1, q2⟩
        have q2' : i' * size + j < i * size + size := by simp at q2; omega
        obtain ⟨j', hj', hq⟩ : ∃ j', j' < size ∧ i' * size + j = i * size + j' := ⟨i' * size + j - i * size, by omega, by omega⟩
        exact hqi (row_split hj hj' hq).1.symm

theorem fillRows_ok {size : Nat} : ∀ {is : List Nat} {ds : List D} {vs : List Value} {rows rows' : List (List D)} {c : Array Value}, RowsR M env size rows c → RdL M env ds vs →
    is.length = vs.length → fillRows size rows is ds = some rows' → ∃ c' : Array Value, Instr.fill (fun i => some (i * size, size)) c (is.zip vs) = some c' ∧ RowsR M env size rows' c' ∧ c'.size = c.size ∧ rows'.length = rows.length
  | [], ds, vs, rows, rows', c, hc, hd, hl, h => by
    have : vs = [] := List.length_eq_zero_iff.1 (by simpa using hl.symm)
    subst this
    cases ds with
    | nil => simp [fillRows] at h; subst h; exact ⟨c, rfl, hc, rfl, rfl⟩
    | cons d ds => simp [fillRows] at h
  | i :: is, ds, vs, rows, rows', c, hc, hd, hl, h => by
    cases ds with
    | nil => simp [fillRows] at h
    | cons d ds =>
      obtain ⟨v, vs', rfl, hv, hs⟩ := hd.cons_inv
      simp only [fillRows] at h
      split at h
      · rename_i cs row hcs hrow
        rw [nth_eq] at hrow
        cases hsz : (cs.length == size) with
        | false => rw [hsz] at h; simp at h
        | true =>
          rw [hsz] at h
          simp only [cond_true] at h
          have hvc := RdL_cellsOf hv hcs
          have hvl : cs.length = v.cells.size := by have := hvc.1; simpa using this
          have hsz' : cs.length = size := by simpa using hsz
          have hi := get_lt hrow
          have hend : i * size + size ≤ rows.length * size := by
            have := Nat.mul_le_mul_right size (show i + 1 ≤ rows.length by omega)
            rw [Nat.add_mul] at this; omega
          have hcl := hc.len
          rw [setN_eq] at h
          obtain ⟨c', h1, h2, h3, h4⟩ := fillRows_ok (hc.put hvc hsz' hi) hs (by simpa using hl) h
          have hf := fold_set (off := i * size) v.cells.toList 0 c (by simp; omega)
          have heq : v.cells.zipIdx.foldl (fun cs (x : Value × Nat) => cs.setIfInBounds (i * size + x.2) x.1) c = (v.cells.toList.zipIdx 0).foldl (fun cs (x : Value × Nat) => cs.setIfInBounds (i * size + x.2) x.1) c := by
            rw [← Array.foldl_toList]; simp [Array.toList_zipIdx]
          refine ⟨c', ?_, h2, by rw [h3, heq]; exact hf.1, by rw [h4]; simp⟩
          simp only [List.zip_cons_cons, Instr.fill]
          rw [if_neg (by simp; omega)]
          exact h1
      · cases h

theorem own_new {H : Heap} (hl : env.length = H.length) {b k n len : Nat} {cap : Option Nat} {c : Nat} (hle : len ≤ c) (hn : c * k ≤ n) (hc : ∀ c', cap = some c' → c' = c) :
    RdD M (env ++ [⟨some b, 0, k, n⟩]) (.own H.length k 0 len cap) (.slice (some ⟨b, 0, none⟩) len c) :=
  RdD.own (blk := ⟨some b, 0, k, n⟩) (b := b) (by rw [← hl]; simp) rfl rfl (fun _ => by simp) hle (by simpa using hn) hc

theorem buildSlice_ok {t e : TypeId} {ti ei : TI} (ht : tyOf Pr t = some ti) (hte : ti.tk = .slice e) (he : tyOf Pr e = some ei) (h : StH g H M env w) {len : Nat} {is : List Nat} {ds : List D} {vs : List Value} (hx : RdL M env ds vs) (hl : is.length = vs.length) :
    OpOK Pr g M env w ((asVal (Instr.buildSlice t len (is.zip vs).toArray)).run Pr w) (opBuildSlice ei len is ds H) := by
  obtain ⟨i, td, z, hi, hu, hz, rfl⟩ := tyOf_spec ht
  simp only [] at hte
  obtain rfl := tk_slice hte
  obtain ⟨einf, etd, ez, heinf, heu, hez, rfl⟩ := tyOf_spec he
  unfold opBuildSlice zeroCells
  simp only []
  cases hzc : cellsOf (.p (constP ez)) with
  | none => trivial
  | some zc =>
  have hzr : RdL M env zc ez.cells.toList := RdL_cellsOf (.p (RdP_constP ez)) hzc
  simp only []
  cases hbb : (Nat.ble (len * einf.size) 16777216 && zc.length == einf.size && Nat.ble 1 einf.size) with
  | false => trivial
  | true =>
  simp only [Bool.and_eq_true, Nat.ble_eq, beq_iff_eq] at hbb
  obtain ⟨⟨q1, q2⟩, q3⟩ := hbb
  simp only [cond_true]
  split
  · rename_i rows hrows
    have hbase : RowsR M env einf.size (List.replicate len zc) ((Array.range (len * einf.size)).map (ez.cells[· % ez.cells.size]!)) := RowsR.zero hzr q2
    obtain ⟨c', h1, h2, h3, h4⟩ := fillRows_ok hbase hx hl hrows
    have hcs : c'.size = len * einf.size := by rw [h3]; simp
    have hrl : rows.length = len := by rw [h4]; simp
    refine OpOK.move (v := .slice (some ⟨w.heap.size, 0, none⟩) len len) (w' := w.alloc (.cells c' e)) (env' := env ++ [⟨some w.heap.size, 0, einf.size, len * einf.size⟩]) ?_ (Ext.push _ _ _) ?_ ?_
    · by_cases hpos : len * einf.size = 0
      · have hlen : len = 0 := by
          rcases Nat.eq_zero_or_pos len with h0 | h0
          · exact h0
          · have := Nat.mul_pos h0 q3; omega
        subst hlen
        have : c' = #[] := by simpa using hcs
        subst this
        have h1' : Instr.fill (fun i => some (i * einf.size, einf.size)) #[] (is.zip vs) = some #[] := by rw [← h1]; congr 1; simp
        have hr0 : Array.range 0 = #[] := rfl
        simp [Instr.buildSlice, run_underlying hu, run_sizeOf heinf, hr0, h1', newRow]
      · exact run_buildSlice (P := Pr) w t e len _ c' einf ez hu heinf hez (by omega) hpos (by simpa using h1)
    · refine h.push (ob := .cells c' e) rfl rfl ?_
      exact (h2.mono (Ext.push M env _)).obj (by omega) (by rw [hrl]; exact Nat.le_refl _) heap_alloc_new
    · exact own_new h.sim.len (Nat.le_refl _) (Nat.le_refl _) (fun c' hc' => by simpa using hc'.symm)
  · trivial

theorem makeSlice_ok {t e : TypeId} {ti ei : TI} (ht : tyOf Pr t = some ti) (hte : ti.tk = .slice e) (he : tyOf Pr e = some ei) (h : StH g H M env w) {x y : D} {a b : Value} (hx : RdD M env x a) (hy : RdD M env y b) :
    OpOK Pr g M env w ((asVal (Instr.makeSlice t a b)).run Pr w) (opMakeSlice ei x y H) := by
  obtain ⟨i, td, z, hi, hu, hz, rfl⟩ := tyOf_spec ht
  simp only [] at hte
  obtain rfl := tk_slice hte
  obtain ⟨einf, etd, ez, heinf, heu, hez, rfl⟩ := tyOf_spec he
  unfold opMakeSlice zeroCells
  split
  · rename_i kl n kc c
    obtain rfl := int_inv hx
    obtain rfl := int_inv hy
    simp only []
    cases hzc : cellsOf (.p (constP ez)) with
    | none => trivial
    | some zc =>
    have hzr : RdL M env zc ez.cells.toList := RdL_cellsOf (.p (RdP_constP ez)) hzc
    simp only []
    cases hbb : (zc.length == einf.size && Nat.ble 1 einf.size) with
    | false => trivial
    | true =>
    simp only [Bool.and_eq_true, Nat.ble_eq, beq_iff_eq] at hbb
    obtain ⟨q2, q3⟩ := hbb
    simp only [cond_true]
    refine OpOK.pre fun ⟨h0, h1, h2, h3⟩ => ?_
    unfold maxRoom at h2
    unfold maxS at h3
    refine OpOK.move (run_make (P := Pr) w t e einf ez hu heinf hez kl kc n c h0 h1 (by omega) (by omega)) (Ext.push M env [⟨some w.heap.size, 0, einf.size, c.toNat * einf.size⟩]) ?_ ?_
    · refine h.push (ob := .cells (madeCells ez.cells (c.toNat * einf.size)) e) rfl rfl ?_
      have hbase : RowsR M (env ++ [⟨some w.heap.size, 0, einf.size, c.toNat * einf.size⟩]) einf.size (List.replicate c.toNat zc) (madeCells ez.cells (c.toNat * einf.size)) := (RowsR.zero hzr q2).mono (Ext.push _ _ _)
      exact hbase.obj (by simp [madeCells]) (by simp) heap_alloc_new
    · exact own_new h.sim.len (by omega) (Nat.le_refl _) (fun c' hc' => by simp at hc'; omega)
  · trivial
end Go.Ab
/-
  Each operation does what the abstract machine says: append.
-/
namespace Go.Ab
variable {M : Mem} {env : List Blk} {H : Heap} {w w' : World} {Pr : Program} {g : G}

/-- What is appended, as the run finds it. -/
structure Src (Pr : Program) (u : TypeId) (x : Value) (size n : Nat) (news : List Value) (w : World) : Prop where
  ty : ∃ d, Pr.underlying u = some d ∧ ((∃ e, d = .slice e) ∨ d = .string)
  len : ∀ w', (Builtin.lenOf x).run Pr w' = .ok n w'
  cells : ∀ w', w'.heap = w.heap → (Builtin.firstCells size n x).run Pr w' = .ok news.toArray w'
  sz : news.length = n * size

theorem run_append_fits {t u ty e : TypeId} {i : TypeInfo} (ht : Pr.underlying t = some (.slice e)) (hi : Pr.info? e = some i) {x : Value} {n sLen sCap : Nat} {news : List Value} {b o : Nat}
    (hs : Src Pr u x i.size n news w) (hfit : sLen + n ≤ sCap)
    (hst : (storeCells ⟨b, o + sLen * i.size, none⟩ news).run Pr w = .ok () w') :
    (Builtin.append_ #[t, u] ty #[.slice (some ⟨b, o, none⟩) sLen sCap, x]).run Pr w = .ok (.slice (some ⟨b, o, none⟩) (sLen + n) sCap) w' := by
  obtain ⟨⟨d, hu, hd⟩, hl, hc, _⟩ := hs
  have hc' := hc w rfl
  rcases hd with ⟨e', rfl⟩ | rfl <;>
    simp [Builtin.append_, run_underlying ht, run_underlying hu, sizeOf, typeInfo, hi, hl, hfit, hc', addr_add, hst]
theorem run_append_nil0 {t u ty e : TypeId} {i : TypeInfo} (ht : Pr.underlying t = some (.slice e)) (hi : Pr.info? e = some i) {x : Value} {news : List Value}
    (hs : Src Pr u x i.size 0 news w) : (Builtin.append_ #[t, u] ty #[.slice none 0 0, x]).run Pr w = .ok (.slice none 0 0) w := by
  obtain ⟨⟨d, hu, hd⟩, hl, hc, _⟩ := hs
  have hc' := hc w rfl
  rcases hd with ⟨e', rfl⟩ | rfl <;>
    simp [Builtin.append_, run_underlying ht, run_underlying hu, sizeOf, typeInfo, hi, hl, hc']

theorem run_append_grows {t u ty e : TypeId} {i : TypeInfo} {z : Value} (ht : Pr.underlying t = some (.slice e)) (hi : Pr.info? e = some i) (hz : i.zero = some z) {x s : Value} {n sLen sCap : Nat} {news olds : List Value} {base : Option Addr}
    (hsv : s = .slice base sLen sCap) (hs : Src Pr u x i.size n news w) (hg : sCap < sLen + n) (h63 : sLen + n ≤ maxS) (hroom : (sLen + n) * i.bytes ≤ maxRoom)
    (hold : ∀ w', w'.heap = w.heap → (Builtin.firstCells i.size sLen s).run Pr w' = .ok olds.toArray w') :
    (Builtin.append_ #[t, u] ty #[s, x]).run Pr w = .ok (.slice (some ⟨w.heap.size, 0, none⟩) (sLen + n) (grownCap w (sLen + n) sCap e))
        (w.drew.alloc (.cells (olds ++ news ++ (Builtin.zeroCells z.cells (grownCap w (sLen + n) sCap e - (sLen + n))).toList).toArray e)) := by
  obtain ⟨⟨d, hu, hd⟩, hl, hc, _⟩ := hs
  have hc' := hc w.drew rfl
  have ho' := hold w.drew rfl
  subst hsv
  unfold maxS at h63
  unfold maxRoom at hroom
  have hn : ¬ (sLen + n ≤ sCap) := by omega
  have h63' : ¬ (9223372036854775807 < ((sLen : Int) + (n : Int))) := by omega
  have h48 := growslice_fits hg hroom
  have h48' : ¬ (281474976710656 < Builtin.nextslicecap (sLen + n) sCap * i.bytes) := by omega
  rcases hd with ⟨e', rfl⟩ | rfl
  all_goals
    simp [Builtin.append_, run_underlying ht, run_underlying hu, sizeOf, typeInfo, zeroValue, hi, hz, hl, hn, h63', h48', Question.forced, hc', ho', newRow, grownCap]
    congr 2
    apply Array.ext'
    simp

theorem flatten_at {α : Type} {k : Nat} : ∀ {rs : List (List α)}, (∀ r ∈ rs, r.length = k) → ∀ {i j : Nat} {row : List α} {x : α}, rs[i]? = some row → row[j]? = some x → rs.flatten[i * k + j]? = some x
  | [], _, i, j, row, x, h, _ => by simp at h
  | r :: rs, hk, i, j, row, x, h, hj => by
    have hr : r.length = k := hk r (by simp)
    have hjl := get_lt hj
    rw [List.flatten_cons]
    cases i with
    | zero =>
      simp at h; subst h
      rw [show 0 * k + j = j by omega, List.getElem?_append_left hjl]
      exact hj
    | succ i =>
      simp at h
      have := flatten_at (fun r h => hk r (by simp [h])) h hj
      rw [List.getElem?_append_right (by rw [hr, Nat.add_mul]; omega), hr, show (i + 1) * k + j - k = i * k + j by rw [Nat.add_mul]; omega]
      exact this
theorem flatten_len {α : Type} {k : Nat} : ∀ {rs : List (List α)}, (∀ r ∈ rs, r.length = k) → rs.flatten.length = rs.length * k
  | [], _ => by simp
  | r :: rs, hk => by
    have hr : r.length = k := hk r (by simp)
    rw [List.flatten_cons, List.length_append, flatten_len (fun r h => hk r (by simp [h])), hr]
    simp [Nat.add_mul]; omega

/-- Rows out of the flat list of what they hold. -/
theorem RowsR.of_flat {size : Nat} {rs : List (List D)} {vs : List Value} {tail : List Value} (h : RdL M env rs.flatten vs) (hk : ∀ r ∈ rs, r.length = size) : RowsR M env size rs (vs ++ tail).toArray := by
  have hl := flatten_len hk
  have hvl : vs.length = rs.length * size := by rw [← h.1]; exact hl
  refine ⟨by simp; omega, hk, fun i j row d h1 h2 => ?_⟩
  obtain ⟨x, hx, hd⟩ := h.get (flatten_at hk h1 h2)
  refine ⟨x, ?_, hd⟩
  have := get_lt hx
  simp [List.getElem?_append_left this, hx]

theorem byteRows_len (l : List UInt8) : ∀ r ∈ l.map byteRowD, r.length = 1 := by
  intro r hr
  obtain ⟨b, _, rfl⟩ := List.mem_map.1 hr
  rfl
theorem appLen_len {x : D} {xs : List (List D)} (ha : rowsD x H = some xs) (hl : appLen x xs) : lenD x = some xs.length := by
  unfold rowsD at ha
  split at ha
  · simp at ha; subst ha; rfl
  · simp at ha; subst ha; simp [lenD]
  · simp only [appLen] at hl; rw [← hl]; rfl
  · cases ha
/-- What the abstract machine takes for what is appended. -/
theorem src_of {u : TypeId} {ui : TI} (hu : tyOf Pr u = some ui) {size : Nat} (h : SimH M env H w) {x : D} {v : Value} (hx : RdD M env x v) {xs : List (List D)} (ha : appended ui.tk x H = some xs) (hl : appLen x xs)
    (hk : ∀ r ∈ xs, r.length = size) : ∃ news, RdL M env xs.flatten news ∧ Src Pr u v size xs.length news w := by
  obtain ⟨i, td, z, hi, hut, hz, rfl⟩ := tyOf_spec hu
  unfold appended at ha
  split at ha
  · rename_i l htk
    obtain rfl := tk_str htk
    simp at ha; subst ha
    obtain ⟨s, rfl, rfl⟩ := str_inv hx
    have hsz : s.data.toList.length = s.size := Array.length_toList
    refine ⟨s.data.toList.map fun b => .int .u8 b.toNat, ⟨by rw [flatten_len (byteRows_len _)]; simp, fun j d x h1 h2 => ?_⟩, ⟨_, hut, .inr rfl⟩, fun w' => by simp [Builtin.lenOf, hsz], fun w' _ => ?_, ?_⟩
    · obtain ⟨i', j', row, rfl, q1, q2⟩ := flatten_get (byteRows_len _) j d h1
      simp only [List.getElem?_map, Option.map_eq_some_iff] at q1
      obtain ⟨b, q1, rfl⟩ := q1
      have hj0 : j' = 0 := by have := get_lt q2; simp [byteRowD] at this; omega
      subst hj0
      simp [byteRowD] at q2; subst q2
      simp only [show i' * 1 + 0 = i' by omega, List.getElem?_map, q1, Option.map_some, Option.some.injEq] at h2
      subst h2
      exact .p .int
    · simp [Builtin.firstCells, hsz]
      apply Array.ext'
      simp
    · have : size = 1 ∨ s.data.toList = [] := by
        cases hsl : s.data.toList with
        | nil => exact .inr rfl
        | cons b bs => left; have := hk (byteRowD b) (by simp [hsl]); simpa [byteRowD] using this.symm
      rcases this with rfl | h0
      · simp
      · simp [h0]
  · rename_i e htk
    obtain rfl := tk_slice htk
    have hlen := appLen_len ha hl
    rcases rows_read h hx ha hlen with ⟨rfl, rfl⟩ | ⟨rfl, ⟨a0, cap0, rfl⟩, _⟩ | ⟨b, o, cap, k, vs, rfl, h1, h2, h3⟩
    · exact ⟨[], .nil, ⟨_, hut, .inl ⟨_, rfl⟩⟩, fun w' => by simp [Builtin.lenOf], fun w' _ => by simp [Builtin.firstCells], by simp⟩
    · refine ⟨[], .nil, ⟨_, hut, .inl ⟨_, rfl⟩⟩, fun w' => by simp [Builtin.lenOf], fun w' _ => ?_, by simp⟩
      have := run_loadCells_list (P := Pr) w' a0 [] (fun j v hj => by simp at hj)
      simp only [List.length_nil] at this
      simp [Builtin.firstCells, this]
    · refine ⟨vs, h2, ⟨_, hut, .inl ⟨_, rfl⟩⟩, fun w' => by simp [Builtin.lenOf], fun w' hw => ?_, ?_⟩
      · have hvl : vs.length = xs.length * size := by rw [← h2.1]; exact flatten_len hk
        have := run_loadCells_list (P := Pr) w' ⟨b, o, none⟩ vs (fun j v hv => by rw [addr_add]; exact (cell_same (by rw [hw])).trans (h3 j v hv))
        rw [hvl] at this
        simp [Builtin.firstCells, this]
      · rw [← h2.1]; exact flatten_len hk
  · cases ha

theorem first_of {size len cap : Nat} {b o : Nat} {vs : List Value} (hl : vs.length = len * size) (h : ∀ (j : Nat) (x : Value), vs[j]? = some x → w.cell? ⟨b, o + j, none⟩ = some x) :
    ∀ w' : World, w'.heap = w.heap → (Builtin.firstCells size len (.slice (some ⟨b, o, none⟩) len cap)).run Pr w' = .ok vs.toArray w' := by
  intro w' hw
  have := run_loadCells_list (P := Pr) w' ⟨b, o, none⟩ vs (fun j v hv => by rw [addr_add]; exact (cell_same (by rw [hw])).trans (h j v hv))
  rw [hl] at this
  simp [Builtin.firstCells, this]

/-- A new row of what was and what is appended. -/
theorem grows_ok {t u ty e : TypeId} {i : TypeInfo} {z : Value} {zc : List D} (ht : Pr.underlying t = some (.slice e)) (hi : Pr.info? e = some i) (hz : i.zero = some z) (hzc : RdL M env zc z.cells.toList) (hzl : zc.length = i.size)
    (h : StH g H M env w) {x s : Value} {xs old : List (List D)} {sCap : Nat} {news olds : List Value} {base : Option Addr} (hsv : s = .slice base old.length sCap) (hnews : RdL M env xs.flatten news) (hs : Src Pr u x i.size xs.length news w)
    (hkx : ∀ r ∈ xs, r.length = i.size) (hko : ∀ r ∈ old, r.length = i.size) (holds : RdL M env old.flatten olds) (hg : sCap < old.length + xs.length) (h63 : old.length + xs.length ≤ maxS) (hroom : (old.length + xs.length) * i.bytes ≤ maxRoom)
    (hold : ∀ w', w'.heap = w.heap → (Builtin.firstCells i.size old.length s).run Pr w' = .ok olds.toArray w') :
    OpOK Pr g M env w ((asVal (Builtin.append_ #[t, u] ty #[s, x])).run Pr w) (.val (.own H.length i.size 0 (old.length + xs.length) none) (H ++ [.rows (old ++ xs)])) := by
  have hge := grownCap_ge w (old.length + xs.length) sCap e
  have hzs : z.cells.size = i.size := by have := hzc.1; simp at this; omega
  have hrow : RowsR M env i.size (old ++ xs) (olds ++ news ++ (Builtin.zeroCells z.cells (grownCap w (old.length + xs.length) sCap e - (old.length + xs.length))).toList).toArray :=
    RowsR.of_flat (by rw [List.flatten_append]; exact holds.append hnews) (fun r hr => by rcases List.mem_append.1 hr with hr | hr; exact hko r hr; exact hkx r hr)
  have hol : olds.length = old.length * i.size := by rw [← holds.1]; exact flatten_len hko
  have hsize : (olds ++ news ++ (Builtin.zeroCells z.cells (grownCap w (old.length + xs.length) sCap e - (old.length + xs.length))).toList).toArray.size = grownCap w (old.length + xs.length) sCap e * i.size := by
    simp [size_zeroCells, hzs, hol, hs.sz, ← Nat.add_mul]
    congr 1
    omega
  refine OpOK.move (run_append_grows ht hi hz hsv hs hg h63 hroom hold) (Ext.push M env [⟨some w.heap.size, 0, i.size, grownCap w (old.length + xs.length) sCap e * i.size⟩]) ?_ ?_
  · have h' : StH g H M env w.drew := h.same rfl
    refine h'.push (ob := .cells _ e) rfl rfl ?_
    refine (hrow.mono (Ext.push M env _)).obj (by omega) ?_ heap_alloc_new
    rw [List.length_append]
    exact Nat.mul_le_mul_right _ hge
  · exact own_new h.sim.len hge (Nat.le_refl _) (by simp)

/-- Rows are written one behind the other, from row q on. -/
theorem store_rows {id : Nat} {blk : Blk} {rs xs : List (List D)} {b : Nat} (h : StH g H M env w) (he : env[id]? = some blk) (ho : H[id]? = some (.rows rs)) (hb : blk.b = some b)
    {q : Nat} {news : List Value} (hq : q ≤ rs.length) (hx : RdL M env xs.flatten news) (hk : ∀ r ∈ xs, r.length = blk.k) (h1 : ∀ r ∈ xs, ∀ d ∈ r, isOne d = true) (hn : (q + xs.length) * blk.k ≤ blk.n) :
    ∃ w', (storeCells ⟨b, blk.o + q * blk.k, none⟩ news).run Pr w = .ok () w' ∧ w'.heap.size = w.heap.size ∧ (∀ b', b' ≠ b → w'.heap[b']? = w.heap[b']?) ∧
      ObjR M env w' blk (.rows (rs.take q ++ xs ++ rs.drop (q + xs.length))) ∧ SoR w w' := by
  have hobj := h.sim.obj id blk _ he ho
  simp only [ObjR, hb] at hobj
  obtain ⟨c, e, fro, a1, a2, a3, a4, a5, a6⟩ := hobj
  have hnl : news.length = xs.length * blk.k := by rw [← hx.1]; exact flatten_len hk
  have hones : ∀ v ∈ news, v.oneCell' = true := hx.ones (fun d hd => by
    obtain ⟨r, hr, hdr⟩ := List.mem_flatten.1 hd
    exact h1 r hr d hdr)
  have hend : blk.o + q * blk.k + news.length ≤ c.size := by rw [hnl]; rw [Nat.add_mul] at hn; omega
  obtain ⟨w', c', hrun, hs, hne, hb', hsz, hget, hso⟩ := run_storeCells_arr (Pr := Pr) (b := b) (o := blk.o + q * blk.k) (e := e) (fro := fro) news 0 w c a1 (by omega) a6.not hones
  refine ⟨w', hrun, hs, hne, ?_, hso⟩
  simp only [ObjR, hb]
  have hlen : (rs.take q ++ xs ++ rs.drop (q + xs.length)).length * blk.k ≤ blk.n := by
    have : (rs.take q ++ xs ++ rs.drop (q + xs.length)).length = max rs.length (q + xs.length) := by simp; omega
    rw [this]
    rcases Nat.le_total rs.length (q + xs.length) with hle | hle
    · rw [Nat.max_eq_right hle]; exact hn
    · rw [Nat.max_eq_left hle]; exact a3
  refine ⟨c', e, fro, hb', by omega, hlen, ?_, ?_, by rw [hsz]; exact a6⟩
  · intro r hr
    rcases List.mem_append.1 hr with hr | hr
    · rcases List.mem_append.1 hr with hr | hr
      · exact a4 r (List.mem_of_mem_take hr)
      · exact hk r hr
    · exact a4 r (List.mem_of_mem_drop hr)
  · intro i j row d hi hj
    have hrowk : ∀ (l : List (List D)), (∀ r ∈ l, r.length = blk.k) → ∀ i : Nat, l[i]? = some row → j < blk.k := by
      intro l hl i hi
      have := get_lt hj; have := hl row (List.mem_of_getElem? hi); omega
    have hout : ∀ i : Nat, (i < q ∨ q + xs.length ≤ i) → j < blk.k → ¬ (blk.o + q * blk.k + 0 ≤ blk.o + i * blk.k + j ∧ blk.o + i * blk.k + j < blk.o + q * blk.k + 0 + news.length) := by
      intro i hi hjk ⟨q1, q2⟩
      rcases hi with hi | hi
      · have := row_le hjk hi; omega
      · have := Nat.mul_le_mul_right blk.k hi
        rw [Nat.add_mul] at this
        omega
    rcases Nat.lt_or_ge i q with hiq | hiq
    · have hi' : rs[i]? = some row := by
        rw [List.append_assoc, List.getElem?_append_left (by simp; omega), List.getElem?_take, if_pos hiq] at hi
        exact hi
      have hjk := hrowk _ a4 _ hi'
      rw [hget, if_neg (hout i (.inl hiq) hjk)]
      exact a5 i j row d hi' hj
    · rcases Nat.lt_or_ge i (q + xs.length) with hix | hix
      · have hi' : xs[i - q]? = some row := by
          rw [List.append_assoc, List.getElem?_append_right (by simp; omega), List.getElem?_append_left (by simp; omega)] at hi
          simp at hi
          rw [Nat.min_eq_left hq] at hi
          exact hi
        have hjk := hrowk _ hk _ hi'
        obtain ⟨x, hx1, hx2⟩ := hx.get (flatten_at hk hi' hj)
        refine ⟨x, ?_, hx2⟩
        have hlt := get_lt hx1
        have e1 : blk.o + i * blk.k + j - (blk.o + q * blk.k + 0) = (i - q) * blk.k + j := by rw [Nat.sub_mul]; have := Nat.mul_le_mul_right blk.k hiq; omega
        have e2 : blk.o + q * blk.k + 0 ≤ blk.o + i * blk.k + j := by have := Nat.mul_le_mul_right blk.k hiq; omega
        rw [hget, if_pos ⟨e2, by omega⟩, e1]
        exact hx1
      · have hi' : rs[i]? = some row := by
          rw [List.append_assoc, List.getElem?_append_right (by simp; omega), List.getElem?_append_right (by simp; omega), List.getElem?_drop] at hi
          simp at hi
          rw [Nat.min_eq_left hq] at hi
          rw [← hi]; congr 1; omega
        have hjk := hrowk _ a4 _ hi'
        rw [hget, if_neg (hout i (.inr hix) hjk)]
        exact a5 i j row d hi' hj

/-- A part of an object's rows, as an object. -/
theorem ObjR.part {blk : Blk} {rs : List (List D)} {b : Nat} (h : ObjR M env w blk (.rows rs)) (hb : blk.b = some b) {st m n : Nat} (hn : st * blk.k + n ≤ blk.n) (hm : m * blk.k ≤ n) :
    ObjR M env w ⟨some b, blk.o + st * blk.k, blk.k, n⟩ (.rows ((rs.drop st).take m)) := by
  simp only [ObjR, hb] at h ⊢
  obtain ⟨c, e, fro, a1, a2, a3, a4, a5, a6⟩ := h
  refine ⟨c, e, fro, a1, by omega, ?_, fun r hr => a4 r (List.mem_of_mem_drop (List.mem_of_mem_take hr)), fun i j row d hi hj => ?_, a6⟩
  · refine Nat.le_trans (Nat.mul_le_mul_right _ ?_) hm
    simp; omega
  · rw [List.getElem?_take] at hi
    split at hi
    · rw [List.getElem?_drop] at hi
      obtain ⟨x, hx, hd⟩ := a5 (st + i) j row d hi hj
      exact ⟨x, by rw [← hx]; congr 1; rw [Nat.add_mul]; omega, hd⟩
    · cases hi

set_option maxHeartbeats 1000000 in
theorem append_ok {t u ty e : TypeId} {ti ui ei : TI} (ht : tyOf Pr t = some ti) (hte : ti.tk = .slice e) (he : tyOf Pr e = some ei) (hu : tyOf Pr u = some ui) (h : StH g H M env w) {s x : D} {a b : Value} (hs : RdD M env s a) (hx : RdD M env x b)
    {xs : List (List D)} (ha : appended ui.tk x H = some xs) (hl : appLen x xs) :
    OpOK Pr g M env w ((asVal (Builtin.append_ #[t, u] ty #[a, b])).run Pr w) (opAppendTo ei s xs H) := by
  obtain ⟨ti', td, tz, hti, htu, htz, rfl⟩ := tyOf_spec ht
  simp only [] at hte
  obtain rfl := tk_slice hte
  obtain ⟨i, etd, z, hi, heu, hz, rfl⟩ := tyOf_spec he
  unfold opAppendTo elemOK zeroCells
  simp only []
  cases hzc : cellsOf (.p (constP z)) with
  | none => trivial
  | some zc =>
  have hzr : RdL M env zc z.cells.toList := RdL_cellsOf (.p (RdP_constP z)) hzc
  simp only []
  cases hbb : (zc.length == i.size && Nat.ble 1 i.size) with
  | false => trivial
  | true =>
  simp only [Bool.and_eq_true, Nat.ble_eq, beq_iff_eq] at hbb
  obtain ⟨hzl, hpos⟩ := hbb
  simp only [cond_true]
  split
  · refine OpOK.pre fun ⟨q1, q2, q3⟩ => ?_
    obtain ⟨news, hn1, hn2⟩ := src_of hu h.sim hx ha hl q3
    cases hs with
    | p hs =>
    cases hs
    by_cases hx0 : xs = []
    · subst hx0
      refine OpOK.move (run_append_nil0 htu hi hn2) (Ext.push M env [⟨none, 0, i.size, 0⟩]) (h.virt rfl) ?_
      exact RdD.ownNil (blk := ⟨none, 0, i.size, 0⟩) (by rw [← h.sim.len]; simp) rfl rfl (by simp)
    · have hxp : 0 < xs.length := List.length_pos_iff.2 hx0
      have := grows_ok (Pr := Pr) (ty := ty) (old := []) (olds := []) (base := none) (sCap := 0) htu hi hz hzr hzl h rfl hn1 hn2 q3 (by simp) .nil (by simpa using hxp) (by simpa using q2) (by simpa using q1)
        (fun w' _ => by simp [Builtin.firstCells])
      simpa using this
  · rename_i id k st len cap
    split
    · rename_i rs hH
      rw [nth_eq] at hH
      cases hkk : (k == i.size) with
      | false => trivial
      | true =>
      have hk : k = i.size := by simpa using hkk
      subst hk
      simp only [cond_true]
      refine OpOK.pre ?_
      rintro ⟨q1, q2, q3, q4, q5⟩
      obtain ⟨news, hn1, hn2⟩ := src_of hu h.sim hx ha hl q3
      rw [setN_eq, setN_eq]
      have hset : H.set id (.rows rs) = H := by
        apply List.ext_getElem?
        intro j
        by_cases hj : id = j
        · subst hj; rw [List.getElem?_set_self (get_lt hH), hH]
        · rw [List.getElem?_set_ne hj]
      cases hs with
      | ownNil a1 a2 a3 a4 =>
        rename_i blk
        have hrs : rs = [] := by have := h.sim.obj id blk _ a1 hH; simpa [ObjR, a2] using this
        subst hrs
        have hst : st = 0 := by simp at q5; omega
        subst hst
        by_cases hx0 : xs = []
        · subst hx0
          cases cap with
          | none =>
            refine OpOK.move (run_append_nil0 htu hi hn2) (Ext.push M env [⟨none, 0, i.size, 0⟩]) ((h.kill id).virt rfl) ?_
            exact RdD.ownNil (blk := ⟨none, 0, i.size, 0⟩) (by rw [← h.sim.len]; simp) rfl rfl (by simp)
          | some c =>
            have := a4 c rfl
            subst this
            simp only [List.length_nil, Nat.add_zero, Nat.le_refl, if_true]
            rw [show (List.take 0 ([] : List (List D)) ++ [] ++ List.drop 0 ([] : List (List D))) = [] from rfl, hset]
            exact OpOK.same h (run_append_nil0 htu hi hn2) (RdD.ownNil a1 a2 a3 a4)
        · have hxp : 0 < xs.length := List.length_pos_iff.2 hx0
          cases cap with
          | none =>
            have := grows_ok (Pr := Pr) (ty := ty) (old := []) (olds := []) (base := none) (sCap := 0) htu hi hz hzr hzl (h.kill id) rfl hn1 hn2 q3 (by simp) .nil (by simpa using hxp) (by simpa using q2) (by simpa using q1)
              (fun w' _ => by simp [Builtin.firstCells])
            simpa using this
          | some c =>
            have := a4 c rfl
            subst this
            simp only []
            rw [if_neg (by omega)]
            have := grows_ok (Pr := Pr) (ty := ty) (old := []) (olds := []) (base := none) (sCap := 0) htu hi hz hzr hzl h rfl hn1 hn2 q3 (by simp) .nil (by simpa using hxp) (by simpa using q2) (by simpa using q1)
              (fun w' _ => by simp [Builtin.firstCells])
            simpa using this
      | own a1 a2 a3 a4 a5 a6 a7 =>
        rename_i blk bb o c
        have hown := RdD.own (M := M) a1 a2 a3 a4 a5 a6 a7
        have hold : ((rs.drop st).take len).length = len := by simp; omega
        have hrowsD : rowsD (.own id i.size st len cap) H = some ((rs.drop st).take len) := by simp [rowsD, nth_eq, hH]
        have hobj := h.sim.obj id blk _ a1 hH
        by_cases hfit : len + xs.length ≤ c
        · -- in place
          have hq : (st + len + xs.length) * blk.k ≤ blk.n := by
            refine Nat.le_trans ?_ a6
            rw [a3]
            exact Nat.mul_le_mul_right _ (by omega)
          obtain ⟨w', hrun, hs1, hs2, hobj', hso⟩ := store_rows (Pr := Pr) h a1 hH a2 (q := st + len) q5 hn1 (by rw [a3]; exact q3) q4 hq
          have hrun' : (storeCells ⟨bb, o + len * i.size, none⟩ news).run Pr w = .ok () w' := by
            by_cases hc0 : c = 0
            · have hx0 : xs = [] := List.length_eq_zero_iff.1 (by omega)
              subst hx0
              have hnn : news = [] := hn1.nil_inv
              subst hnn
              exact hrun
            · rw [a4 hc0]
              rw [← hrun, Nat.add_mul, a3]
              congr 3; omega
          have happ := run_append_fits (Pr := Pr) (ty := ty) htu hi hn2 hfit hrun'
          cases cap with
          | none =>
            simp only []
            refine OpOK.move happ (Ext.push M env [⟨some bb, blk.o + st * blk.k, blk.k, c * blk.k⟩]) ?_ ?_
            · refine h.reuse a1 hH rfl a2 rfl hs1 hs2 ?_
              have hpart := (hobj'.mono (Ext.push M env [⟨some bb, blk.o + st * blk.k, blk.k, c * blk.k⟩]) (fun _ _ _ => rfl)).part a2 (st := st) (m := len + xs.length) (n := c * blk.k)
                (by rw [← Nat.add_mul, a3]; exact a6) (Nat.mul_le_mul_right _ hfit)
              have e1 : List.take (len + xs.length) (List.drop st (List.take (st + len) rs ++ xs ++ List.drop (st + len + xs.length) rs)) = (rs.drop st).take len ++ xs := by
                have t1 : (List.take (st + len) rs).length = st + len := by simp; omega
                rw [List.append_assoc, List.drop_append, List.take_append, t1]
                simp only [show st - (st + len) = 0 by omega, List.drop_zero]
                have t2 : (List.drop st (List.take (st + len) rs)).length = len := by simp; omega
                rw [List.take_of_length_le (by rw [t2]; omega), t2, show len + xs.length - len = xs.length by omega]
                rw [List.take_left' rfl]
                congr 1
                rw [List.drop_take]; congr 1; omega
              rw [e1] at hpart
              exact hpart
            · refine RdD.own (blk := ⟨some bb, blk.o + st * blk.k, blk.k, c * blk.k⟩) (by rw [← h.sim.len]; simp) rfl a3 (fun hc => by rw [a4 hc, a3]; simp) hfit (by rw [a3]; simp) (by simp)
          | some c' =>
            have := a7 c' rfl
            subst this
            simp only []
            rw [if_pos hfit]
            exact OpOK.move happ (Ext.refl _ _) (h.set a1 hH rfl a2 hs1 hs2 hobj') (RdD.own a1 a2 a3 a4 hfit a6 a7)
        · -- a new row
          rcases rows_read h.sim hown hrowsD (by simp only [lenD, hold]) with ⟨h0, _⟩ | ⟨_, _, rows0, h0⟩ | ⟨b1, o1, cap1, k1, vs1, h0, h1, h2, h3⟩
          · cases h0
          · cases h0
          · simp only [Value.slice.injEq, Option.some.injEq, Addr.mk.injEq] at h0
            obtain ⟨⟨rfl, rfl, _⟩, _, rfl⟩ := h0
            have hko : ∀ r ∈ (rs.drop st).take len, r.length = i.size := by
              simp only [ObjR, a2] at hobj
              obtain ⟨_, _, _, _, _, _, z4, _, _⟩ := hobj
              exact fun r hr => by rw [z4 r (List.mem_of_mem_drop (List.mem_of_mem_take hr)), a3]
            have hvl : vs1.length = len * i.size := by rw [← h2.1, flatten_len hko, hold]
            cases cap with
            | none =>
              have := grows_ok (Pr := Pr) (ty := ty) (old := (rs.drop st).take len) (olds := vs1) (base := some ⟨bb, o, none⟩) (sCap := c) htu hi hz hzr hzl (h.kill id) (by rw [hold]) hn1 hn2 q3 hko h2 (by rw [hold]; omega) (by rw [hold]; exact q2) (by rw [hold]; exact q1)
                (by rw [hold]; exact first_of hvl h3)
              rw [hold, List.length_set] at this
              exact this
            | some c' =>
              have := a7 c' rfl
              subst this
              simp only []
              rw [if_neg hfit]
              have := grows_ok (Pr := Pr) (ty := ty) (old := (rs.drop st).take len) (olds := vs1) (base := some ⟨bb, o, none⟩) (sCap := c') htu hi hz hzr hzl h (by rw [hold]) hn1 hn2 q3 hko h2 (by rw [hold]; omega) (by rw [hold]; exact q2) (by rw [hold]; exact q1)
                (by rw [hold]; exact first_of hvl h3)
              rw [hold] at this
              exact this
    · trivial
  · trivial
end Go.Ab
