/- A logic of owned and sealed memory over the machine's steps. Own work of these sessions. -/
import Derived.WalkKit
import Derived.KernelRfl
import Derived.Orders
import Derived.Below
import Derived.Laws.CopyRow
import Derived.Laws.Cells
import Derived.Laws.Slices
import Derived.ChangeKeysEq
import Derived.Laws.StructEq
import Derived.Laws.Build
import Derived.LoopN
import Derived.WideLaws
section
/- A small separation logic over the walk's rules: owned blocks, sealed blocks, slots; what each plain operation comes to is told by plain functions. No program in sight. -/
namespace Go.Proofs.YtobjaddicodiaaaDoorE
open Go Go.RowKit

/-! ### short words -/
abbrev vI (n : Int) : Value := .int .i64 n
abbrev vB (b : Bool) : Value := .bool b
abbrev vP (b o : Nat) : Value := .pointer (some ⟨b, o, none⟩)
/-! ### slots -/
abbrev Sl := List (Nat × Value)
def gt : Sl → Nat → Option Value
  | [], _ => none
  | (k, v) :: r, t => if k = t then some v else gt r t
def pt (σ : Sl) : Option Nat → Value → Sl
  | none, _ => σ
  | some d, v => (d, v) :: σ
def keep (L : List Nat) (σ : Sl) : Sl := L.filterMap fun t => (gt σ t).map fun v => (t, v)

def SlOK (σ : Sl) (ts : Array Value) : Prop := ∀ t v, gt σ t = some v → ts[t]? = some v

theorem SlOK.pt {σ : Sl} {ts : Array Value} (h : SlOK σ ts) {d : Option Nat} {v : Value} (hd : ∀ t, d = some t → t < ts.size) (df : List Deferred) :
    SlOK (pt σ d v) (Act.put ⟨ts, df⟩ d v).tmps := by
  cases d with
  | none => exact h
  | some d =>
    have hlt := hd d rfl
    intro t u hg
    simp only [YtobjaddicodiaaaDoorE.pt, gt] at hg
    simp only [Act.put, Array.getElem?_setIfInBounds]
    by_cases e : d = t
    · subst e; simp at hg; subst hg; simp [hlt]
    · rw [if_neg e] at hg; rw [if_neg e]; exact h t u hg

theorem SlOK.keep {σ : Sl} {ts : Array Value} (h : SlOK σ ts) (L : List Nat) : SlOK (keep L σ) ts := by
  intro t v hg
  induction L with
  | nil => simp [YtobjaddicodiaaaDoorE.keep, gt] at hg
  | cons x L ih =>
    unfold YtobjaddicodiaaaDoorE.keep at hg ih
    cases hx : gt σ x with
    | none => simp only [List.filterMap_cons, hx, Option.map_none] at hg; exact ih hg
    | some u =>
      simp only [List.filterMap_cons, hx, Option.map_some, gt] at hg
      by_cases e : x = t
      · subst e; rw [if_pos rfl] at hg; obtain rfl := Option.some.inj hg; exact h _ _ hx
      · rw [if_neg e] at hg; exact ih hg

/-! ### memory -/
/-- A block that is owned; without a number: none at all (what a nil slice leads to). -/
structure Own where
  b : Option Nat
  cs : List Value
  n : Nat
def Own.okAt (e : Own) (b : Nat) (w : World) : Prop := ∃ (arr : Array Value) (T : TypeId), w.heap[b]? = some (.cells arr T (0, 0)) ∧ arr.size = e.n ∧ e.cs.length ≤ e.n ∧ ∀ (i : Nat) (v : Value), e.cs[i]? = some v → arr[i]? = some v
def Own.ok (e : Own) (w : World) : Prop := (e.b = none ∧ e.cs = [] ∧ e.n = 0) ∨ ∃ b, e.b = some b ∧ e.okAt b w
abbrev bs (H : List Own) : List Nat := H.filterMap Own.b
/-- What is only read: what a block's cells begin with; which blocks are plain. -/
structure Seal where
  f : Nat → Option (List Value)
  pl : Nat → Prop
instance : CoeFun Seal (fun _ => Nat → Option (List Value)) := ⟨Seal.f⟩
structure HOK (H : List Own) (S : Seal) (w : World) : Prop where
  own : ∀ e ∈ H, e.ok w
  nd : (bs H).Nodup
  dis : ∀ b ∈ bs H, S b = none
  seal_ : ∀ (b : Nat) (l : List Value), S b = some l → ∃ (arr : Array Value) (T : TypeId) (z : Nat × Nat), w.heap[b]? = some (.cells arr T z) ∧ ∀ (i : Nat) (v : Value), l[i]? = some v → arr[i]? = some v
  pl_ : ∀ b, S.pl b → b ∉ bs H ∧ ∃ (arr : Array Value) (T : TypeId), w.heap[b]? = some (.cells arr T (0, 0))

structure Ext (O : List Nat) (w w' : World) : Prop where
  os : w'.os = w.os
  tape : w'.tape = w.tape
  output : w'.output = w.output
  size : w.heap.size ≤ w'.heap.size
  block : ∀ k, k < w.heap.size → k ∉ O → w'.heap[k]? = w.heap[k]?

structure Step (H : List Own) (S : Seal) (w : World) (H' : List Own) (S' : Seal) (w' : World) : Prop where
  ext : Ext (bs H) w w'
  new : ∀ b ∈ bs H', b ∈ bs H ∨ w.heap.size ≤ b
  snew : ∀ b l, S' b = some l → S b = some l ∨ (S b = none ∧ (b ∈ bs H ∨ w.heap.size ≤ b))
  sold : ∀ b l, S b = some l → S' b = some l
  spl : S'.pl = S.pl

theorem mem_bs {H : List Own} {b : Nat} : b ∈ bs H ↔ ∃ e ∈ H, e.b = some b := by simp [bs, List.mem_filterMap]
theorem bs_append (A B : List Own) : bs (A ++ B) = bs A ++ bs B := List.filterMap_append
theorem bs_perm {A B : List Own} (p : A.Perm B) : (bs A).Perm (bs B) := p.filterMap _
theorem bs_some (b : Nat) (cs : List Value) (n : Nat) (H : List Own) : bs (⟨some b, cs, n⟩ :: H) = b :: bs H := by simp [bs]
theorem Own.lt {e : Own} {w : World} (h : e.ok w) {b : Nat} (hb : e.b = some b) : b < w.heap.size := by
  rcases h with ⟨h, _⟩ | ⟨b', h0, arr, T, h, _⟩
  · rw [h] at hb; cases hb
  · rw [h0] at hb; obtain rfl := Option.some.inj hb
    exact (Array.getElem?_eq_some_iff.1 h).1
theorem HOK.blt {H : List Own} {S : Seal} {w : World} (h : HOK H S w) {b : Nat} (hb : b ∈ bs H) : b < w.heap.size := by
  obtain ⟨e, he, hb⟩ := mem_bs.1 hb
  exact Own.lt (h.own e he) hb
theorem HOK.slt {H : List Own} {S : Seal} {w : World} (h : HOK H S w) {b : Nat} {l : List Value} (hb : S b = some l) : b < w.heap.size := by
  obtain ⟨arr, T, z, h, _⟩ := h.seal_ b l hb
  exact (Array.getElem?_eq_some_iff.1 h).1
theorem HOK.fresh {H : List Own} {S : Seal} {w : World} (h : HOK H S w) {b : Nat} (hb : w.heap.size ≤ b) : b ∉ bs H ∧ S b = none := by
  constructor
  · intro hm
    have := h.blt hm
    omega
  · cases hs : S b with
    | none => rfl
    | some l => have := h.slt hs; omega

theorem Ext.refl (O : List Nat) (w : World) : Ext O w w := ⟨rfl, rfl, rfl, Nat.le_refl _, fun _ _ _ => rfl⟩
theorem Step.refl (H : List Own) (S : Seal) (w : World) : Step H S w H S w :=
  ⟨Ext.refl _ _, fun _ he => Or.inl he, fun _ _ h => Or.inl h, fun _ _ h => h, rfl⟩

theorem Step.trans {H H1 H2 : List Own} {S S1 S2 : Seal} {w w1 w2 : World} (h : Step H S w H1 S1 w1) (k : Step H1 S1 w1 H2 S2 w2) : Step H S w H2 S2 w2 := by
  have hin : ∀ b, b ∈ bs H1 → b ∈ bs H ∨ w.heap.size ≤ b := fun b hb => h.new b hb
  refine ⟨⟨k.ext.os.trans h.ext.os, k.ext.tape.trans h.ext.tape, k.ext.output.trans h.ext.output, Nat.le_trans h.ext.size k.ext.size, ?_⟩, ?_, ?_, fun b l hb => k.sold b l (h.sold b l hb), k.spl.trans h.spl⟩
  · intro i hi hO
    rw [k.ext.block i (Nat.lt_of_lt_of_le hi h.ext.size) (fun hm => by
      rcases hin i hm with hm | hm
      · exact hO hm
      · omega), h.ext.block i hi hO]
  · intro e he
    rcases k.new e he with hm | hm
    · exact hin _ hm
    · exact Or.inr (Nat.le_trans h.ext.size hm)
  · intro b l hb
    rcases k.snew b l hb with hm | ⟨h1, hm⟩
    · exact h.snew b l hm
    · have h0 : S b = none := by
        cases hs : S b with
        | none => rfl
        | some l' => rw [h.sold b l' hs] at h1; cases h1
      refine Or.inr ⟨h0, ?_⟩
      rcases hm with hm | hm
      · exact hin _ hm
      · exact Or.inr (Nat.le_trans h.ext.size hm)

/-- What another one owns or has sealed stays, over a step that doesn't own it. -/
theorem Own.keep {e : Own} {O : List Nat} {w w' : World} (h : e.ok w) (x : Ext O w w') (hO : ∀ b, e.b = some b → b ∉ O) : e.ok w' := by
  rcases h with h | ⟨b, h0, arr, T, h1, h2⟩
  · exact Or.inl h
  · exact Or.inr ⟨b, h0, arr, T, by rw [x.block _ (Array.getElem?_eq_some_iff.1 h1).1 (hO b h0)]; exact h1, h2⟩

theorem HOK.drew {H : List Own} {S : Seal} {w : World} (h : HOK H S w) : HOK H S { w with drawn := w.drawn + 1 } := ⟨h.own, h.nd, h.dis, h.seal_, h.pl_⟩
theorem Step.drew {H : List Own} {S : Seal} {w : World} {H' : List Own} {S' : Seal} {w' : World} (h : Step H S { w with drawn := w.drawn + 1 } H' S' w') : Step H S w H' S' w' :=
  ⟨⟨h.ext.os, h.ext.tape, h.ext.output, h.ext.size, h.ext.block⟩, h.new, h.snew, h.sold, h.spl⟩

/-- The frame: what isn't handed over. -/
theorem HOK.frame {H F H' : List Own} {S S' : Seal} {w w' : World} (h : HOK (H ++ F) S w) (h' : HOK H' S' w') (st : Step H S w H' S' w') :
    HOK (H' ++ F) S' w' ∧ Step (H ++ F) S w (H' ++ F) S' w' := by
  have hnd := h.nd
  rw [bs_append, List.nodup_append] at hnd
  obtain ⟨n1, n2, n3⟩ := hnd
  have hF : ∀ b ∈ bs F, b < w.heap.size ∧ b ∉ bs H := fun b hb => ⟨h.blt (by rw [bs_append]; exact List.mem_append_right _ hb), fun hm => n3 _ hm _ hb rfl⟩
  refine ⟨⟨?_, ?_, ?_, h'.seal_, fun b hb => ⟨fun hm => ?_, (h'.pl_ b hb).2⟩⟩, ⟨⟨st.ext.os, st.ext.tape, st.ext.output, st.ext.size, ?_⟩, ?_, ?_, st.sold, st.spl⟩⟩
  · intro e he
    rcases List.mem_append.1 he with he | he
    · exact h'.own e he
    · exact Own.keep (h.own e (List.mem_append_right _ he)) st.ext (fun b hb => (hF b (mem_bs.2 ⟨e, he, hb⟩)).2)
  · rw [bs_append, List.nodup_append]
    refine ⟨h'.nd, n2, ?_⟩
    intro a ha b hb hab
    subst hab
    rcases st.new a ha with hm | hm
    · exact (hF a hb).2 hm
    · have := (hF a hb).1; omega
  · intro b he
    rw [bs_append] at he
    rcases List.mem_append.1 he with he | he
    · exact h'.dis b he
    · cases hs : S' b with
      | none => rfl
      | some l =>
        rcases st.snew _ _ hs with hm | ⟨_, hm | hm⟩
        · rw [h.dis b (by rw [bs_append]; exact List.mem_append_right _ he)] at hm; cases hm
        · exact absurd hm (hF b he).2
        · have := (hF b he).1; omega
  · rw [bs_append] at hm
    rcases List.mem_append.1 hm with hm | hm
    · exact (h'.pl_ b hb).1 hm
    · rw [st.spl] at hb
      exact (h.pl_ b hb).1 (by rw [bs_append]; exact List.mem_append_right _ hm)
  · intro k hk hO
    rw [bs_append] at hO
    exact st.ext.block k hk (fun hm => hO (List.mem_append_left _ hm))
  · intro b he
    rw [bs_append] at he ⊢
    rcases List.mem_append.1 he with he | he
    · rcases st.new b he with hm | hm
      · exact Or.inl (List.mem_append_left _ hm)
      · exact Or.inr hm
    · exact Or.inl (List.mem_append_right _ he)
  · intro b l hb
    rw [bs_append]
    rcases st.snew b l hb with hm | ⟨h0, hm | hm⟩
    · exact Or.inl hm
    · exact Or.inr ⟨h0, Or.inl (List.mem_append_left _ hm)⟩
    · exact Or.inr ⟨h0, Or.inr hm⟩

theorem HOK.perm {H H' : List Own} {S : Seal} {w : World} (h : HOK H S w) (p : H.Perm H') : HOK H' S w :=
  ⟨fun e he => h.own e (p.mem_iff.2 he), (bs_perm p).nodup_iff.1 h.nd, fun e he => h.dis e ((bs_perm p).mem_iff.2 he), h.seal_, fun b hb => ⟨fun hm => (h.pl_ b hb).1 ((bs_perm p).mem_iff.2 hm), (h.pl_ b hb).2⟩⟩
theorem Step.perm {H H1 : List Own} {S S' : Seal} {w w' : World} {H' : List Own} (h : Step H S w H' S' w') (p : H.Perm H1) : Step H1 S w H' S' w' := by
  have hm : ∀ b, b ∈ bs H ↔ b ∈ bs H1 := fun b => (bs_perm p).mem_iff
  exact ⟨⟨h.ext.os, h.ext.tape, h.ext.output, h.ext.size, fun k hk hO => h.ext.block k hk (fun x => hO ((hm k).1 x))⟩, fun e he => (h.new e he).imp (hm _).1 id,
    fun b l hb => (h.snew b l hb).imp id (fun ⟨x, y⟩ => ⟨x, y.imp (hm _).1 id⟩), h.sold, h.spl⟩

/-- Blocks that nobody wants any more are let go. -/
theorem HOK.drop {H F : List Own} {S : Seal} {w : World} (h : HOK (H ++ F) S w) : HOK H S w :=
  ⟨fun e he => h.own e (List.mem_append_left _ he), by have := h.nd; rw [bs_append, List.nodup_append] at this; exact this.1, fun e he => h.dis e (by rw [bs_append]; exact List.mem_append_left _ he), h.seal_, fun b hb => ⟨fun hm => (h.pl_ b hb).1 (by rw [bs_append]; exact List.mem_append_left _ hm), (h.pl_ b hb).2⟩⟩
theorem Step.drop {H : List Own} {S S' : Seal} {w w' : World} {H' F : List Own} (h : Step H S w (H' ++ F) S' w') : Step H S w H' S' w' :=
  ⟨h.ext, fun e he => h.new e (by rw [bs_append]; exact List.mem_append_left _ he), h.snew, h.sold, h.spl⟩

/-- A block is sealed: from now on it is only read. -/
def sealed (S : Seal) (b : Option Nat) (l : List Value) : Seal := ⟨fun k => if b = some k then some l else S k, S.pl⟩
theorem HOK.sealB {H : List Own} {S : Seal} {w : World} {e : Own} (h : HOK (e :: H) S w) : HOK H (sealed S e.b e.cs) w ∧ Step (e :: H) S w H (sealed S e.b e.cs) w := by
  have hsub : ∀ b ∈ bs H, b ∈ bs (e :: H) := fun b hb => by obtain ⟨f, hf, hb⟩ := mem_bs.1 hb; exact mem_bs.2 ⟨f, by simp [hf], hb⟩
  have hnot : ∀ b, e.b = some b → b ∉ bs H := fun b hb hm => by
    have hnd := h.nd
    have : bs (e :: H) = b :: bs H := by simp [bs, hb]
    rw [this, List.nodup_cons] at hnd
    exact hnd.1 hm
  have hndH : (bs H).Nodup := by
    have hnd := h.nd
    cases hb : e.b with
    | none => have : bs (e :: H) = bs H := by simp [bs, hb]
              rwa [this] at hnd
    | some b => have : bs (e :: H) = b :: bs H := by simp [bs, hb]
                rw [this, List.nodup_cons] at hnd; exact hnd.2
  refine ⟨⟨fun f hf => h.own f (by simp [hf]), hndH, ?_, ?_, fun b hb => ⟨fun hm => (h.pl_ b hb).1 (hsub b hm), (h.pl_ b hb).2⟩⟩, ⟨Ext.refl _ _, fun f hf => Or.inl (hsub f hf), ?_, ?_, rfl⟩⟩
  · intro b hb
    simp only [sealed]
    rw [if_neg (fun he => hnot b he hb)]
    exact h.dis b (hsub b hb)
  · intro b l hb
    simp only [sealed] at hb
    split at hb
    · rename_i e1; obtain rfl := Option.some.inj hb
      rcases h.own e (by simp) with ⟨h0, _⟩ | ⟨b', h0, arr, T, h1, _, _, h4⟩
      · rw [h0] at e1; cases e1
      · rw [h0] at e1; obtain rfl := Option.some.inj e1
        exact ⟨arr, T, _, h1, h4⟩
    · exact h.seal_ b l hb
  · intro b l hb
    simp only [sealed] at hb
    split at hb
    · rename_i e1; obtain rfl := Option.some.inj hb
      exact Or.inr ⟨h.dis b (mem_bs.2 ⟨e, by simp, e1⟩), Or.inl (mem_bs.2 ⟨e, by simp, e1⟩)⟩
    · exact Or.inl hb
  · intro b l hb
    simp only [sealed]
    split
    · rename_i e1; rw [h.dis b (mem_bs.2 ⟨e, by simp, e1⟩)] at hb; cases hb
    · exact hb

end Go.Proofs.YtobjaddicodiaaaDoorE
end

section
/- What each plain operation comes to, over slots and known memory, by plain functions; and that the machine's operation comes to just that. -/
namespace Go.Proofs.YtobjaddicodiaaaDoorE
open Go Go.RowKit

inductive K where
  | mv (x : Operand)
  | pk (c x y : Operand)
  | bld (z : List Value) (ps : List (Nat × Nat × Operand))
  | ld (n : Option Nat) (x : Operand)
  | pad (k : Nat) (x : Operand)
  | fld (n : Option Nat) (off : Nat) (x : Operand)
  | ixs (z : Nat) (x i : Operand)
  | ixa (z m : Nat) (x i : Operand)
  | ixv (n : Option Nat) (z m : Nat) (x i : Operand)
  | nck (x : Operand)
  | bin (op : BinOp) (x y : Operand)
  | beq (neg : Bool) (x y : Operand)
  | un (op : UnOp) (x : Operand)
  | cnv (k : IntKind) (x : Operand)
  | xt (i : Nat) (x : Operand)
  | lns (x : Operand)
  | lnc (n : Nat)
  | mm (isMax : Bool) (xs : List Operand)
  | mkf (f : FuncId) (caps : List Operand)
  | sls (z : Nat) (x : Operand) (lo hi : Option Operand)
  | sla (z m : Nat) (x : Operand) (lo hi : Option Operand)
  | mki (t : TypeId) (x : Operand)
  | tas (t : TypeId) (ok : Bool) (z : Value) (x : Operand)
  | s2a (n : Nat) (x : Operand)
  | new (z : List Value)
  | box (x : Operand)
  | bsl (cs : List Value) (len : Nat) (ps : List (Nat × Nat × Operand))
  | st (n : Nat) (x v : Operand)
  | call (f : FuncId) (xs : List Operand)
  | clo (x : Operand) (xs : List Operand)
  | app (e : TypeId) (z bytes : Nat) (zero : List Value) (x y : Operand)
  | mks (z bytes : Nat) (zero : List Value) (l c : Operand)
  | conv (src dst : TypeId) (x : Operand)
  | eqt (neg : Bool) (t : TypeId) (x y : Operand)
  | fail

def ev (σ : Sl) : Operand → Option Value
  | .tmp t => gt σ t
  | .const v => some v
  | .func f => some (.func (.func f) #[] #[])
  | .global g => some (.pointer (some ⟨g, 0, none⟩))
def evs (σ : Sl) : List Operand → Option (List Value)
  | [] => some []
  | x :: r => match ev σ x, evs σ r with
    | some v, some vs => some (v :: vs)
    | _, _ => none
def evo (σ : Sl) : Option Operand → Option (Option Value)
  | none => some none
  | some x => match ev σ x with
    | some v => some (some v)
    | none => none

theorem ev_ok {σ : Sl} {ts : Array Value} (h : SlOK σ ts) {df : List Deferred} {x : Operand} {v : Value} (e : ev σ x = some v) : Act.eval ⟨ts, df⟩ x = v := by
  cases x with
  | tmp t => have := h t v e; simp [Act.eval, Array.getD_eq_getD_getElem?, this]
  | const u => exact Option.some.inj e
  | func f => exact Option.some.inj e
  | global g => exact Option.some.inj e
theorem evs_ok {σ : Sl} {ts : Array Value} (h : SlOK σ ts) {df : List Deferred} : ∀ {xs : List Operand} {vs : List Value}, evs σ xs = some vs → xs.map (Act.eval ⟨ts, df⟩) = vs
  | [], vs, e => by cases e; rfl
  | x :: r, vs, e => by
    unfold evs at e
    split at e
    · rename_i v ws h1 h2
      obtain rfl := Option.some.inj e
      rw [List.map_cons, ev_ok h h1, evs_ok h h2]
    · cases e
theorem evo_ok {σ : Sl} {ts : Array Value} (h : SlOK σ ts) {df : List Deferred} {x : Option Operand} {v : Option Value} (e : evo σ x = some v) : x.map (Act.eval ⟨ts, df⟩) = v := by
  cases x with
  | none => exact Option.some.inj e
  | some x =>
    simp only [evo] at e
    cases hx : ev σ x with
    | none => rw [hx] at e; cases e
    | some u => rw [hx] at e; obtain rfl := Option.some.inj e; simp [ev_ok h hx]

def cl (v : Value) : List Value := v.cells.toList

def subl (l : List Value) (o n : Nat) : Option (List Value) := if o + n ≤ l.length then some ((l.drop o).take n) else none
def rdn : List Own → Seal → Nat → Nat → Nat → Option (List Value)
  | [], S, b, o, n => match S b with
    | some l => subl l o n
    | none => none
  | e :: r, S, b, o, n => if e.b = some b then subl e.cs o n else rdn r S b o n
def rd1 : List Own → Seal → Nat → Nat → Option Value
  | [], S, b, o => match S b with
    | some l => l[o]?
    | none => none
  | e :: r, S, b, o => if e.b = some b then e.cs[o]? else rd1 r S b o

theorem subl_get {l : List Value} {o n : Nat} {vs : List Value} (h : subl l o n = some vs) : vs.length = n ∧ ∀ j v, vs[j]? = some v → l[o + j]? = some v := by
  unfold subl at h
  split at h
  · rename_i hl
    obtain rfl := Option.some.inj h
    refine ⟨by simp; omega, fun j v hj => ?_⟩
    rw [List.getElem?_take] at hj
    split at hj
    · rw [List.getElem?_drop] at hj; exact hj
    · cases hj
  · cases h

theorem rdn_ok {w : World} : ∀ {H : List Own} {S : Seal} {b o n : Nat} {vs : List Value}, (∀ e ∈ H, e.ok w) → (∀ (b : Nat) (l : List Value), S b = some l → ∃ (arr : Array Value) (T : TypeId) (z : Nat × Nat), w.heap[b]? = some (.cells arr T z) ∧ ∀ (i : Nat) (v : Value), l[i]? = some v → arr[i]? = some v) →
    rdn H S b o n = some vs → vs.length = n ∧ ∀ j v, vs[j]? = some v → w.cell? ⟨b, o + j, none⟩ = some v
  | [], S, b, o, n, vs, _, hS, h => by
    unfold rdn at h
    split at h
    · rename_i l hl
      obtain ⟨arr, T, z, h1, h2⟩ := hS b l hl
      obtain ⟨h3, h4⟩ := subl_get h
      exact ⟨h3, fun j v hj => by simp [World.cell?, h1, h2 _ _ (h4 j v hj)]⟩
    · cases h
  | e :: r, S, b, o, n, vs, hH, hS, h => by
    unfold rdn at h
    split at h
    · rename_i he
      rcases hH e (by simp) with ⟨h0, _⟩ | ⟨b', h0, arr, T, h1, _, _, h2⟩
      · rw [h0] at he; cases he
      · rw [h0] at he; obtain rfl := Option.some.inj he
        obtain ⟨h3, h4⟩ := subl_get h
        exact ⟨h3, fun j v hj => by simp [World.cell?, h1, h2 _ _ (h4 j v hj)]⟩
    · exact rdn_ok (fun f hf => hH f (by simp [hf])) hS h
theorem rd1_ok {w : World} : ∀ {H : List Own} {S : Seal} {b o : Nat} {v : Value}, (∀ e ∈ H, e.ok w) → (∀ (b : Nat) (l : List Value), S b = some l → ∃ (arr : Array Value) (T : TypeId) (z : Nat × Nat), w.heap[b]? = some (.cells arr T z) ∧ ∀ (i : Nat) (v : Value), l[i]? = some v → arr[i]? = some v) →
    rd1 H S b o = some v → w.cell? ⟨b, o, none⟩ = some v
  | [], S, b, o, v, _, hS, h => by
    unfold rd1 at h
    split at h
    · rename_i l hl
      obtain ⟨arr, T, z, h1, h2⟩ := hS b l hl
      simp [World.cell?, h1, h2 _ _ h]
    · cases h
  | e :: r, S, b, o, v, hH, hS, h => by
    unfold rd1 at h
    split at h
    · rename_i he
      rcases hH e (by simp) with ⟨h0, _⟩ | ⟨b', h0, arr, T, h1, _, _, h2⟩
      · rw [h0] at he; cases he
      · rw [h0] at he; obtain rfl := Option.some.inj he
        simp [World.cell?, h1, h2 _ _ h]
    · exact rd1_ok (fun f hf => hH f (by simp [hf])) hS h

/-- Parts laid into cells. -/
def lay (cells : List Value) : List (Nat × Nat × Value) → Option (List Value)
  | [] => some cells
  | (off, size, v) :: r => if (cl v).length = size ∧ off + size ≤ cells.length then lay (cells.take off ++ cl v ++ cells.drop (off + size)) r else none
def evp (σ : Sl) : List (Nat × Nat × Operand) → Option (List (Nat × Nat × Value))
  | [] => some []
  | (o, n, x) :: r => match ev σ x, evp σ r with
    | some v, some vs => some ((o, n, v) :: vs)
    | _, _ => none

def binv (op : BinOp) : Value → Value → Option Value
  | .int k a, .int k' b => match op with
    | .shl => if b < 0 then none else some (.int k (k.wrap (a * 2 ^ (min b.toNat k.bits))))
    | .shr => if b < 0 then none else some (.int k (a.fdiv (2 ^ (min b.toNat k.bits))))
    | .add => if k = k' then some (.int k (k.wrap (a + b))) else none
    | .sub => if k = k' then some (.int k (k.wrap (a - b))) else none
    | .mul => if k = k' then some (.int k (k.wrap (a * b))) else none
    | .quo => if k = k' then (if b = 0 then none else some (.int k (k.wrap (a.tdiv b)))) else none
    | .rem => if k = k' then (if b = 0 then none else some (.int k (a.tmod b))) else none
    | .and => if k = k' then some (.int k (bits .and k a b)) else none
    | .or => if k = k' then some (.int k (bits .or k a b)) else none
    | .xor => if k = k' then some (.int k (bits .xor k a b)) else none
    | .andNot => if k = k' then some (.int k (bits .andNot k a b)) else none
    | .eql => if k = k' then some (.bool (a == b)) else none
    | .neq => if k = k' then some (.bool (a != b)) else none
    | .lss => if k = k' then some (.bool (decide (a < b))) else none
    | .leq => if k = k' then some (.bool (decide (a ≤ b))) else none
    | .gtr => if k = k' then some (.bool (decide (a > b))) else none
    | .geq => if k = k' then some (.bool (decide (a ≥ b))) else none
  | _, _ => none
def unv (op : UnOp) : Value → Option Value
  | .int k n => match op with
    | .neg => some (.int k (k.wrap (0 - n)))
    | .xor => some (.int k (bits .xor k (if k.signed then -1 else k.max) n))
    | _ => none
  | .bool b => match op with
    | .not => some (.bool !b)
    | _ => none
  | _ => none
def mm2 (isMax : Bool) : Value → Value → Option Value
  | .int k a, .int _ b => some (.int k (if isMax then (if b > a then b else a) else (if b < a then b else a)))
  | _, _ => none
def mms (isMax : Bool) (v : Value) : List Value → Option Value
  | [] => some v
  | x :: r => match mm2 isMax v x with
    | some u => mms isMax u r
    | none => none

/-- A bound of a cut. -/
def bnd (y : Nat) : Value → Option Nat
  | .int _ i => if 0 ≤ i ∧ i ≤ y then some i.toNat else none
  | _ => none

/-- The value of a quiet operation. -/
def qv (H : List Own) (S : Seal) (σ : Sl) : K → Option Value
  | .mv x => ev σ x
  | .pk c x y => match ev σ c with
    | some (.bool b) => if b then ev σ x else ev σ y
    | _ => none
  | .bld z ps => match evp σ ps with
    | some vs => match lay z vs with
      | some cs => some (.agg cs.toArray)
      | none => none
    | none => none
  | .ld none x => match ev σ x with
    | some (.pointer (some ⟨b, o, none⟩)) => rd1 H S b o
    | _ => none
  | .ld (some n) x => match ev σ x with
    | some (.pointer (some ⟨b, o, none⟩)) => match rdn H S b o n with
      | some vs => some (.agg vs.toArray)
      | none => none
    | _ => none
  | .pad k x => match ev σ x with
    | some (.pointer (some ⟨b, o, none⟩)) => some (.pointer (some ⟨b, o + k, none⟩))
    | _ => none
  | .fld none off x => match ev σ x with
    | some (.agg cs) => cs.toList[off]?
    | _ => none
  | .fld (some n) off x => match ev σ x with
    | some (.agg cs) => match subl cs.toList off n with
      | some vs => some (.agg vs.toArray)
      | none => none
    | _ => none
  | .ixs z x i => match ev σ x, ev σ i with
    | some (.slice (some ⟨b, o, none⟩) len _), some (.int _ j) => if 0 ≤ j ∧ j < len then some (.pointer (some ⟨b, o + j.toNat * z, none⟩)) else none
    | _, _ => none
  | .ixa z m x i => match ev σ x, ev σ i with
    | some (.pointer (some ⟨b, o, none⟩)), some (.int _ j) => if 0 ≤ j ∧ j < m then some (.pointer (some ⟨b, o + j.toNat * z, none⟩)) else none
    | _, _ => none
  | .ixv none z m x i => match ev σ x, ev σ i with
    | some (.agg cs), some (.int _ j) => if 0 ≤ j ∧ j < m then cs.toList[j.toNat * z]? else none
    | _, _ => none
  | .ixv (some n) z m x i => match ev σ x, ev σ i with
    | some (.agg cs), some (.int _ j) => if 0 ≤ j ∧ j < m then (match subl cs.toList (j.toNat * z) n with
      | some vs => some (.agg vs.toArray)
      | none => none) else none
    | _, _ => none
  | .nck x => match ev σ x with
    | some (.pointer (some a)) => some (.pointer (some a))
    | _ => none
  | .bin op x y => match ev σ x, ev σ y with
    | some a, some b => binv op a b
    | _, _ => none
  | .beq neg x y => match ev σ x, ev σ y with
    | some (.bool a), some (.bool b) => some (.bool (if neg then a != b else a == b))
    | _, _ => none
  | .un op x => match ev σ x with
    | some a => unv op a
    | _ => none
  | .cnv k x => match ev σ x with
    | some (.int _ n) => some (.int k (k.wrap n))
    | _ => none
  | .xt i x => match ev σ x with
    | some (.tuple vs) => vs.toList[i]?
    | _ => none
  | .lns x => match ev σ x with
    | some (.slice _ n _) => some (.int .i64 n)
    | _ => none
  | .lnc n => some (.int .i64 n)
  | .mm m xs => match evs σ xs with
    | some (v :: vs) => mms m v vs
    | _ => none
  | .mkf f caps => match evs σ caps with
    | some vs => some (.func (.func f) #[] vs.toArray)
    | none => none
  | .sls z x lo hi => match ev σ x, evo σ lo, evo σ hi with
    | some (.slice (some ⟨b, o, none⟩) len cap), some lo, some hi =>
      match (match hi with | some v => bnd (min len cap) v | none => some len) with
      | some h => match (match lo with | some v => bnd h v | none => some 0) with
        | some l => some (.slice (some (if cap = l then ⟨b, o, none⟩ else ⟨b, o + l * z, none⟩)) (h - l) (cap - l))
        | none => none
      | none => none
    | _, _, _ => none
  | .sla z m x lo hi => match ev σ x, evo σ lo, evo σ hi with
    | some (.pointer (some ⟨b, o, none⟩)), some lo, some hi =>
      match (match hi with | some v => bnd m v | none => some m) with
      | some h => match (match lo with | some v => bnd h v | none => some 0) with
        | some l => some (.slice (some (if m = l then ⟨b, o, none⟩ else ⟨b, o + l * z, none⟩)) (h - l) (m - l))
        | none => none
      | none => none
    | _, _, _ => none
  | .mki t x => match ev σ x with
    | some v => some (.iface t v)
    | none => none
  | .tas t ok z x => match ev σ x with
    | some (.iface u v) => if u = t then some (if ok then .tuple #[v, .bool true] else v) else if ok then some (.tuple #[z, .bool false]) else none
    | some .nilIface => if ok then some (.tuple #[z, .bool false]) else none
    | _ => none
  | .s2a n x => match ev σ x with
    | some (.slice a len _) => if n ≤ len then some (.pointer a) else none
    | _ => none
  | _ => none
/-- The block's number; the slice's address. -/
def bk (a : Option Nat) : Nat := a.getD 0
def ad (a : Option Nat) : Option Addr := a.map fun b => ⟨b, 0, none⟩
/-- One cell, or some, read out of what is owned or sealed. -/
def R1 (H : List Own) (S : Seal) (b o : Nat) (v : Value) : Prop := (∃ e, e ∈ H ∧ bk e.b = b ∧ e.cs[o]? = some v) ∨ ∃ l, S b = some l ∧ l[o]? = some v
def Rn (H : List Own) (S : Seal) (b o n : Nat) (vs : List Value) : Prop := (∃ e, e ∈ H ∧ bk e.b = b ∧ subl e.cs o n = some vs) ∨ ∃ l, S b = some l ∧ subl l o n = some vs
theorem R1.at {H : List Own} {S : Seal} {b o n : Nat} {cs : List Value} {v : Value} (i : Nat) (he : H[i]? = some ⟨some b, cs, n⟩) (hv : cs[o]? = some v) : R1 H S b o v := Or.inl ⟨_, List.mem_of_getElem? he, rfl, hv⟩
theorem Rn.at {H : List Own} {S : Seal} {b o n m : Nat} {cs vs : List Value} (i : Nat) (he : H[i]? = some ⟨some b, cs, m⟩) (hv : subl cs o n = some vs) : Rn H S b o n vs := Or.inl ⟨_, List.mem_of_getElem? he, rfl, hv⟩
theorem R1.lst {H : List Own} {S : Seal} {a : Option Nat} {o n : Nat} {cs : List Value} {v : Value} (i : Nat) (he : H[i]? = some ⟨a, cs, n⟩) (hv : cs[o]? = some v) : R1 H S (bk a) o v := Or.inl ⟨_, List.mem_of_getElem? he, rfl, hv⟩
theorem Rn.lst {H : List Own} {S : Seal} {a : Option Nat} {o n m : Nat} {cs vs : List Value} (i : Nat) (he : H[i]? = some ⟨a, cs, m⟩) (hv : subl cs o n = some vs) : Rn H S (bk a) o n vs := Or.inl ⟨_, List.mem_of_getElem? he, rfl, hv⟩
theorem R1.sealed {H : List Own} {S : Seal} {b o : Nat} {l : List Value} {v : Value} (hS : S b = some l) (hv : l[o]? = some v) : R1 H S b o v := Or.inr ⟨l, hS, hv⟩
theorem Rn.sealed {H : List Own} {S : Seal} {b o n : Nat} {l : List Value} {vs : List Value} (hS : S b = some l) (hv : subl l o n = some vs) : Rn H S b o n vs := Or.inr ⟨l, hS, hv⟩
theorem R1.ok {H : List Own} {S : Seal} {w : World} (hH : HOK H S w) {b o : Nat} {v : Value} (h : R1 H S b o v) : w.cell? ⟨b, o, none⟩ = some v := by
  rcases h with ⟨e, he, rfl, hv⟩ | ⟨l, hS, hv⟩
  · rcases hH.own e he with ⟨_, h0, _⟩ | ⟨b, h0, arr, T, h1, _, _, h2⟩
    · rw [h0] at hv; cases hv
    · simp [World.cell?, bk, h0, h1, h2 _ _ hv]
  · obtain ⟨arr, T, z, h1, h2⟩ := hH.seal_ b l hS
    simp [World.cell?, h1, h2 _ _ hv]
theorem Rn.ok {H : List Own} {S : Seal} {w : World} (hH : HOK H S w) {b o n : Nat} {vs : List Value} (h : Rn H S b o n vs) : vs.length = n ∧ ∀ j v, vs[j]? = some v → w.cell? ⟨b, o + j, none⟩ = some v := by
  rcases h with ⟨e, he, rfl, hv⟩ | ⟨l, hS, hv⟩
  · obtain ⟨h3, h4⟩ := subl_get hv
    refine ⟨h3, fun j v hj => ?_⟩
    rcases hH.own e he with ⟨_, h0, _⟩ | ⟨b, h0, arr, T, h1, _, _, h2⟩
    · have := h4 j v hj
      rw [h0] at this; cases this
    · simp [World.cell?, bk, h0, h1, h2 _ _ (h4 j v hj)]
  · obtain ⟨arr, T, z, h1, h2⟩ := hH.seal_ b l hS
    obtain ⟨h3, h4⟩ := subl_get hv
    exact ⟨h3, fun j v hj => by simp [World.cell?, h1, h2 _ _ (h4 j v hj)]⟩

end Go.Proofs.YtobjaddicodiaaaDoorE
end

section
/- From the machine's operations to the plain ones, over a program's types; that a quiet operation comes to its plain value. -/
namespace Go.Proofs.YtobjaddicodiaaaDoorE
open Go Go.RowKit

def aggT (P : Program) (t : TypeId) : Option Bool := match P.underlying t with
  | some (.struct _) | some (.array _ _) => some true
  | some _ => some false
  | none => none
def sizT (P : Program) (t : TypeId) : Option Nat := (P.info? t).map (·.size)
/-- A variable's shape: none: one cell. -/
def varT (P : Program) (t : TypeId) : Option (Option Nat) := match aggT P t, sizT P t with
  | some true, some n => some (some n)
  | some false, some _ => some none
  | _, _ => none
def zerT (P : Program) (t : TypeId) : Option (List Value) := (P.info? t).bind fun i => i.zero.map fun v => v.cells.toList

def placesT (P : Program) (fs : Array Field) : List (Nat × Operand) → Option (List (Nat × Nat × Operand))
  | [] => some []
  | (i, x) :: r => match fs[i]?, placesT P fs r with
    | some f, some l => match sizT P f.type with
      | some n => some ((f.offset, n, x) :: l)
      | none => none
    | _, _ => none

def toK (P : Program) : Op → K
  | .move x | .assign x => .mv x
  | .pick c a b => .pk c a b
  | .alloc t => match zerT P t with
    | some z => .new z
    | none => .fail
  | .box _ x => .box x
  | .build t parts => match zerT P t, P.underlying t with
    | some z, some (.struct fs) => match placesT P fs parts.toList with
      | some ps => if fs.toList.all (fun f => (sizT P f.type).isSome) then .bld z ps else .fail
      | none => .fail
    | some z, some (.array _ e) => match sizT P e with
      | some n => .bld z (parts.toList.map fun p => (p.1 * n, n, p.2))
      | none => .fail
    | _, _ => .fail
  | .buildSlice t len parts => match P.underlying t with
    | some (.slice e) => match sizT P e, zerT P e with
      | some n, some z => if len * n > 2 ^ 24 ∨ z.length = 0 then .fail else .bsl ((List.range (len * n)).map fun i => z.getD (i % z.length) undef) len (parts.toList.map fun p => (p.1 * n, n, p.2))
      | _, _ => .fail
    | _ => .fail
  | .load t x => match varT P t with
    | some n => .ld n x
    | none => .fail
  | .store t x v => match sizT P t with
    | some n => .st n x v
    | none => .fail
  | .nilCheck x => .nck x
  | .binOp op t x y _ => match P.underlying t with
    | some .bool => match op with
      | .eql => .beq false x y
      | .neq => .beq true x y
      | _ => .fail
    | some (.int _) => .bin op x y
    | some (.struct _) | some (.array _ _) | some (.interface _) => match op with
      | .eql => .eqt false t x y
      | .neq => .eqt true t x y
      | _ => .fail
    | _ => .fail
  | .unOp op _ x => .un op x
  | .convert s d x => match P.underlying s, P.underlying d with
    | some (.int _), some (.int k) => .cnv k x
    | _, _ => .conv s d x
  | .makeInterface t x => if P.concrete t then .mki t x else .fail
  | .sliceToArrayPointer t x => match P.underlying t with
    | some (.array n _) => .s2a n x
    | _ => .fail
  | .typeAssert x _ t ok => match P.underlying t with
    | some (.interface _) => .fail
    | some _ => match (P.info? t).bind (·.zero) with
      | some z => .tas t ok z x
      | none => .fail
    | none => .fail
  | .makeFunc fn first caps => match fn with
    | .func f => if first.size = 0 then .mkf f caps.toList else .fail
    | _ => .fail
  | .slice t x lo hi none => match P.underlying t with
    | some (.slice e) => match sizT P e with
      | some z => .sls z x lo hi
      | none => .fail
    | some (.array m e) => match sizT P e with
      | some z => .sla z m x lo hi
      | none => .fail
    | _ => .fail
  | .fieldAddr t x f => match P.underlying t with
    | some (.struct fs) => match fs[f]? with
      | some fd => match sizT P fd.type with
        | some n => if n = 0 then .fail else .pad fd.offset x
        | none => .fail
      | none => .fail
    | _ => .fail
  | .field t x f => match P.underlying t with
    | some (.struct fs) => match fs[f]? with
      | some fd => match varT P fd.type with
        | some n => .fld n fd.offset x
        | none => .fail
      | none => .fail
    | _ => .fail
  | .indexAddr t x i => match P.underlying t with
    | some (.slice e) => match sizT P e with
      | some z => .ixs z x i
      | none => .fail
    | some (.array m e) => match sizT P e with
      | some z => .ixa z m x i
      | none => .fail
    | _ => .fail
  | .index t x i => match P.underlying t with
    | some (.array m e) => match varT P e, sizT P e with
      | some n, some z => .ixv n z m x i
      | _, _ => .fail
    | _ => .fail
  | .extract x i => .xt i x
  | .call c => match c.callee with
    | .builtin .len => match c.argTypes.toList, c.args.toList with
      | [t], [x] => match P.underlying t with
        | some (.slice _) => .lns x
        | some (.array n _) => .lnc n
        | _ => .fail
      | _, _ => .fail
    | .builtin .max => .mm true c.args.toList
    | .builtin .min => .mm false c.args.toList
    | .builtin .append => match c.argTypes.toList, c.args.toList with
      | [t, u], [x, y] => match P.underlying t, P.underlying u with
        | some (.slice e), some (.slice e') => match P.info? e with
          | some i => match i.zero with
            | some z => if i.size = 0 then .fail else if e = e' then .app e i.size i.bytes z.cells.toList x y else .fail
            | none => .fail
          | none => .fail
        | _, _ => .fail
      | _, _ => .fail
    | .value (.func f) => match P.funcs[f]? with
      | some fn => if fn.body.isSome && !(fn.name == "runtime.NumGoroutine") then .call f c.args.toList else .fail
      | none => .fail
    | .value x => .clo x c.args.toList
    | _ => .fail
  | .makeSlice t l c => match P.underlying t with
    | some (.slice e) => match P.info? e with
      | some i => match i.zero with
        | some z => if z.cells.size = 0 ∨ i.size = 0 then .fail else .mks i.size i.bytes z.cells.toList l c
        | none => .fail
      | none => .fail
    | _ => .fail
  | _ => .fail

theorem aggT_run {P : Program} {t : TypeId} {b : Bool} (h : aggT P t = some b) (w : World) : (isAgg t).run P w = .ok b w := by
  unfold aggT at h
  split at h <;> rename_i hu
  · obtain rfl := Option.some.inj h; simp [isAgg, run_underlying hu]
  · obtain rfl := Option.some.inj h; simp [isAgg, run_underlying hu]
  · rename_i d hn1 hn2
    obtain rfl := Option.some.inj h
    cases d <;> first | (simp [isAgg, run_underlying hu]; done) | exact absurd rfl (hn1 _) | exact absurd rfl (hn2 _ _)
  · cases h
theorem sizT_run {P : Program} {t : TypeId} {n : Nat} (h : sizT P t = some n) (w : World) : (sizeOf t).run P w = .ok n w := by
  unfold sizT at h
  cases hi : P.info? t with
  | none => rw [hi] at h; cases h
  | some i => rw [hi] at h; obtain rfl := Option.some.inj h; simp [sizeOf, typeInfo, hi]
theorem varT_none {P : Program} {t : TypeId} (h : varT P t = some none) : aggT P t = some false := by
  unfold varT at h
  split at h
  · cases h
  · assumption
  · cases h
theorem varT_some {P : Program} {t : TypeId} {n : Nat} (h : varT P t = some (some n)) : aggT P t = some true ∧ sizT P t = some n := by
  unfold varT at h
  split at h
  · rename_i m h1 h2; obtain rfl := Option.some.inj (Option.some.inj h); exact ⟨h1, h2⟩
  · cases h
  · cases h

theorem run_loadVar_one {P : Program} {t : TypeId} (h : varT P t = some none) {w : World} {b o : Nat} {v : Value} (hc : w.cell? ⟨b, o, none⟩ = some v) : (loadVar t ⟨b, o, none⟩).run P w = .ok v w := by
  simp [loadVar, aggT_run (varT_none h), hc]
theorem run_loadVar_many {P : Program} {t : TypeId} {n : Nat} (h : varT P t = some (some n)) {w : World} {b o : Nat} {vs : List Value} (hl : vs.length = n) (hc : ∀ j v, vs[j]? = some v → w.cell? ⟨b, o + j, none⟩ = some v) :
    (loadVar t ⟨b, o, none⟩).run P w = .ok (.agg vs.toArray) w := by
  obtain ⟨h1, h2⟩ := varT_some h
  have := run_loadCells_list (P := P) w ⟨b, o, none⟩ vs (fun j v hj => by rw [Addr.add_lit]; exact hc j v hj)
  rw [hl] at this
  simp [loadVar, aggT_run h1, sizT_run h2, this]

theorem run_part_one {P : Program} {t : TypeId} (h : varT P t = some none) {w : World} {cs : Array Value} {o : Nat} {v : Value} (hc : cs.toList[o]? = some v) : (part t cs o).run P w = .ok v w := by
  have hc' : cs[o]? = some v := by simpa using hc
  simp [part, aggT_run (varT_none h), hc']
theorem run_part_many {P : Program} {t : TypeId} {n : Nat} (h : varT P t = some (some n)) {w : World} {cs : Array Value} {o : Nat} {vs : List Value} (hc : subl cs.toList o n = some vs) : (part t cs o).run P w = .ok (.agg vs.toArray) w := by
  obtain ⟨h1, h2⟩ := varT_some h
  have e : (cs.extract o (o + n)) = vs.toArray := by
    unfold subl at hc
    split at hc
    · obtain rfl := Option.some.inj hc
      apply Array.ext'
      simp
    · cases hc
  simp [part, aggT_run h1, sizT_run h2, e]

theorem lay_fill {place : Nat → Option (Nat × Nat)} : ∀ {ps : List (Nat × Value)} {vs : List (Nat × Nat × Value)} {cells out : List Value},
    ps.map (fun p => (place p.1).map fun q => (q.1, q.2, p.2)) = vs.map some → lay cells vs = some out → Instr.fill place cells.toArray ps = some out.toArray
  | [], [], cells, out, _, h => by simp only [lay] at h; obtain rfl := Option.some.inj h; rfl
  | [], _ :: _, _, _, e, _ => by simp at e
  | _ :: _, [], _, _, e, _ => by simp at e
  | (i, v) :: r, (off, size, u) :: vs, cells, out, e, h => by
    simp only [List.map_cons, List.cons.injEq] at e
    obtain ⟨e1, e2⟩ := e
    cases hp : place i with
    | none => rw [hp] at e1; cases e1
    | some q =>
      rw [hp] at e1
      simp only [Option.map_some, Option.some.injEq, Prod.mk.injEq] at e1
      obtain ⟨rfl, rfl, rfl⟩ := e1
      simp only [lay] at h
      split at h
      · rename_i hc
        have hs : v.cells.size = q.2 := by simpa [cl] using hc.1
        have hl : q.1 + v.cells.size ≤ cells.length := by rw [hs]; exact hc.2
        have hfold : v.cells.zipIdx.foldl (fun cs (c, j) => cs.setIfInBounds (q.1 + j) c) cells.toArray = (cells.take q.1 ++ cl v ++ cells.drop (q.1 + q.2)).toArray := by
          have key : ∀ (l : List Value) (k : Nat) (cs : List Value), q.1 + k + l.length ≤ cs.length →
              (l.zipIdx k).foldl (fun (cs : Array Value) (p : Value × Nat) => cs.setIfInBounds (q.1 + p.2) p.1) cs.toArray = (cs.take (q.1 + k) ++ l ++ cs.drop (q.1 + k + l.length)).toArray := by
            intro l
            induction l with
            | nil => intro k cs _; simp
            | cons x l ih =>
              intro k cs hk
              simp only [List.length_cons] at hk
              simp only [List.zipIdx_cons, List.foldl_cons]
              rw [show (cs.toArray.setIfInBounds (q.1 + k) x) = (cs.set (q.1 + k) x).toArray from by simp]
              rw [ih (k + 1) (cs.set (q.1 + k) x) (by simp; omega)]
              congr 1
              have e := list_seg_step cs (q.1 + k) x l (by omega)
              rw [← Nat.add_assoc]
              exact e
          have k0 := key v.cells.toList 0 cells (by simpa using hl)
          rw [← Array.foldl_toList, Array.toList_zipIdx]
          simp only [Nat.add_zero] at k0
          refine Eq.trans k0 ?_
          simp [cl, hs]
        simp only [Instr.fill, hp]
        rw [if_neg (by simp [hs]; exact hc.2)]
        rw [hfold]
        exact lay_fill e2 h
      · cases h
end Go.Proofs.YtobjaddicodiaaaDoorE
end

section
/- A quiet operation comes to its plain value. -/
namespace Go.Proofs.YtobjaddicodiaaaDoorE
open Go Go.RowKit

theorem zerT_run {P : Program} {t : TypeId} {z : List Value} (h : zerT P t = some z) (w : World) : ∃ v, (zeroValue t).run P w = .ok v w ∧ v.cells.toList = z := by
  unfold zerT at h
  cases hi : P.info? t with
  | none => rw [hi] at h; cases h
  | some i =>
    rw [hi] at h
    cases hz : i.zero with
    | none => simp [hz] at h
    | some v =>
      simp [hz] at h
      exact ⟨v, by simp [zeroValue, typeInfo, hi, hz], h⟩

theorem evp_ok {σ : Sl} {ts : Array Value} (h : SlOK σ ts) {df : List Deferred} : ∀ {ps : List (Nat × Nat × Operand)} {vs : List (Nat × Nat × Value)}, evp σ ps = some vs →
    vs = ps.map fun p => (p.1, p.2.1, Act.eval ⟨ts, df⟩ p.2.2)
  | [], vs, e => by cases e; rfl
  | (o, n, x) :: r, vs, e => by
    unfold evp at e
    split at e
    · rename_i v ws h1 h2
      obtain rfl := Option.some.inj e
      rw [evp_ok h h2, List.map_cons, ev_ok h h1]
    · cases e

theorem placesT_ok {P : Program} {fs : Array Field} {g : Operand → Value} : ∀ {ps : List (Nat × Operand)} {qs : List (Nat × Nat × Operand)}, placesT P fs ps = some qs →
    (ps.map fun p => (fs[p.1]?).bind fun f => (sizT P f.type).map fun n => (f.offset, n, g p.2)) = qs.map fun q => some (q.1, q.2.1, g q.2.2)
  | [], qs, e => by cases e; rfl
  | (i, x) :: r, qs, e => by
    unfold placesT at e
    split at e
    · rename_i f l h1 h2
      split at e
      · rename_i n h3
        obtain rfl := Option.some.inj e
        simp only [List.map_cons, placesT_ok h2, h1, Option.bind_some, h3, Option.map_some]
      · cases e
    · cases e

theorem mapM_places {P : Program} (w : World) : ∀ (l : List Field) (acc : Array (Nat × Nat)), (∀ f ∈ l, (sizT P f.type).isSome = true) →
    (l.foldlM (fun (bs : Array (Nat × Nat)) f => (do let s ← sizeOf f.type; pure (bs.push (f.offset, s)) : Sem (Array (Nat × Nat)))) acc).run P w = .ok (acc ++ (l.map fun f => (f.offset, (sizT P f.type).getD 0)).toArray) w
  | [], acc, _ => by simp [List.foldlM]
  | f :: l, acc, h => by
    obtain ⟨n, hn⟩ := Option.isSome_iff_exists.1 (h f (by simp))
    simp only [List.foldlM_cons, Sem.run_bind, sizT_run hn, Result.andThen_ok, Sem.run_pure, mapM_places w l _ (fun g hg => h g (by simp [hg]))]
    congr 1
    apply Array.ext'
    simp [hn]

theorem bnd_run {P : Program} {w : World} {m : Nat} {v : Value} {i : Nat} {code : BoundsCode} {M : Nat} (hM : m ≤ M) (h : bnd m v = some i) : (Instr.sliceBound v M code).run P w = .ok i w ∧ i ≤ m := by
  unfold bnd at h
  split at h
  · rename_i k j
    split at h
    · rename_i hc
      obtain rfl := Option.some.inj h
      have : 0 ≤ j ∧ j ≤ (M : Int) := ⟨hc.1, by omega⟩
      refine ⟨?_, by omega⟩
      simp [Instr.sliceBound, asIntOf, this]
    · cases h
  · cases h

theorem mm_run {P : Program} {w : World} {b : Bool} : ∀ {vs : List Value} {v u : Value}, mms b v vs = some u → (vs.foldlM (if b then Builtin.max2 else Builtin.min2) v).run P w = .ok u w
  | [], v, u, h => by simp only [mms] at h; obtain rfl := Option.some.inj h; simp [List.foldlM]
  | x :: r, v, u, h => by
    simp only [mms] at h
    cases h2 : mm2 b v x with
    | none => rw [h2] at h; cases h
    | some y =>
      rw [h2] at h
      have ih := mm_run (P := P) (w := w) h
      unfold mm2 at h2
      split at h2
      · rename_i k a k' c
        obtain rfl := Option.some.inj h2
        cases b <;> simp [List.foldlM_cons, Builtin.max2, Builtin.min2] at ih ⊢ <;> exact ih
      · cases h2

theorem bin_run {P : Program} {w : World} {op : BinOp} {t : TypeId} {x y : Operand} {a b v : Value} (h : binv op a b = some v) : ((do eqGuard op t x y a b; binOp op t a b) : Sem Value).run P w = .ok v w := by
  unfold binv at h
  split at h
  · rename_i k a k' b
    simp only [eqGuard_at_int, Sem.run_bind, Sem.run_pure, Result.andThen_ok]
    cases op <;> simp only at h <;> (repeat' split at h) <;> first
      | (cases h; done)
      | (obtain rfl := Option.some.inj h; subst_vars; first
        | (rename_i h1; simp [binOp, Op.intDiv, h1]; done)
        | (simp [binOp, Op.shift, *]; done)
        | (simp [binOp, Op.intArith, Op.intCmp, intBits_and, intBits_or, intBits_xor, intBits_andNot]; done))
  · cases h

theorem un_run {P : Program} {w : World} {op : UnOp} {a v : Value} (h : unv op a = some v) : (Op.unary op a).run P w = .ok v w := by
  unfold unv at h
  split at h
  · cases op <;> simp only at h <;> first
      | (cases h; done)
      | (obtain rfl := Option.some.inj h; simp [Op.unary, Op.intArith, intBits_xor])
  · cases op <;> simp only at h <;> first
      | (cases h; done)
      | (obtain rfl := Option.some.inj h; simp [Op.unary])
  · cases h

theorem eqb_run {P : Program} {t : TypeId} (hu : P.underlying t = some .bool) (a b : Bool) (w : World) : (binOp .eql t (.bool a) (.bool b)).run P w = .ok (.bool (a == b)) w := by
  have e : binOp .eql t (.bool a) (.bool b) = (do pure (.bool (← Op.equal t (.bool a) (.bool b)))) := rfl
  have e2 : (Op.equal t (.bool a) (.bool b)).run P w = .ok (a == b) w := run_equalIn_bool' w 9999 t a b hu
  rw [e, Sem.run_bind, e2]; rfl
theorem neb_run {P : Program} {t : TypeId} (hu : P.underlying t = some .bool) (a b : Bool) (w : World) : (binOp .neq t (.bool a) (.bool b)).run P w = .ok (.bool (a != b)) w := by
  have e : binOp .neq t (.bool a) (.bool b) = (do pure (.bool (!(← Op.equal t (.bool a) (.bool b))))) := rfl
  have e2 : (Op.equal t (.bool a) (.bool b)).run P w = .ok (a == b) w := run_equalIn_bool' w 9999 t a b hu
  rw [e, Sem.run_bind, e2]; rfl

set_option maxHeartbeats 1000000 in
theorem quiet {P : Program} {σ : Sl} {ts : Array Value} {df : List Deferred} {H : List Own} {S : Seal} {w : World} (hσ : SlOK σ ts) (hH : HOK H S w) {o : Oper} {v : Value}
    (h : qv H S σ (toK P o.op) = some v) : (execOp (Act.eval ⟨ts, df⟩) o).run P w = .ok (.value v) w := by
  obtain ⟨dst, op, type, pos, after, guard⟩ := o
  cases op <;> simp only [toK] at h
  case move x => simp only [qv] at h; simp [execOp, ev_ok hσ h]
  case assign x => simp only [qv] at h; simp [execOp, ev_ok hσ h]
  case pick c x y =>
    simp only [qv] at h
    split at h
    · rename_i b hb
      simp only [execOp, ev_ok hσ hb, asBool]
      cases b
      · simp only [Bool.false_eq_true, if_false] at h ⊢; simp [ev_ok hσ h]
      · simp only [if_true] at h ⊢; simp [ev_ok hσ h]
    · cases h
  case alloc => split at h <;> simp [qv] at h
  case box => simp [qv] at h
  case build t parts =>
    split at h
    · rename_i z fs hz hu
      split at h
      · rename_i ps hps
        split at h
        · rename_i hall
          simp only [qv] at h
          split at h
          · rename_i vs hvs
            split at h
            · rename_i cs hcs
              obtain rfl := Option.some.inj h
              obtain ⟨zv, hz1, hz2⟩ := zerT_run hz w
              have hm := mapM_places (P := P) w fs.toList #[] (fun f hf => List.all_eq_true.1 hall f hf)
              have hm2 : (Array.mapM (fun f => (do let s ← sizeOf f.type; pure (f.offset, s) : Sem (Nat × Nat))) fs).run P w = .ok ((fs.toList.map fun f => (f.offset, (sizT P f.type).getD 0)).toArray) w := by
                rw [Array.mapM_eq_foldlM]
                rw [← Array.foldlM_toList]
                simpa using hm
              have hvs' := evp_ok hσ (df := df) hvs
              have hfill := lay_fill (place := fun i => ((fs.toList.map fun f => (f.offset, (sizT P f.type).getD 0)).toArray)[i]?) (ps := (parts.map fun p => (p.1, Act.eval ⟨ts, df⟩ p.2)).toList) (vs := vs) (cells := z) (out := cs)
                (by
                  rw [hvs']
                  have hp := placesT_ok (g := Act.eval ⟨ts, df⟩) hps
                  simp only [Array.toList_map, List.map_map, Function.comp_def] at hp ⊢
                  rw [← hp]
                  apply List.map_congr_left
                  intro p _
                  simp only [List.getElem?_toArray, List.getElem?_map, Array.getElem?_toList, Option.map_map, Function.comp_def]
                  cases hf : fs[p.1]? with
                  | none => rfl
                  | some f =>
                    have hs : (sizT P f.type).isSome = true := by
                      have := List.all_eq_true.1 hall f (by have := Array.mem_of_getElem? hf; simpa using this)
                      simpa using this
                    obtain ⟨n, hn⟩ := Option.isSome_iff_exists.1 hs
                    simp [hn]) hcs
              simp only [execOp, Instr.build, Sem.run_bind, hz1, Result.andThen_ok, run_underlying hu, hm2]
              have hz3 : zv.cells = z.toArray := by rw [← hz2]
              simp only [hz3]
              simp only [hfill]
              rfl
            · cases h
          · cases h
        · simp [qv] at h
      · simp [qv] at h
    · rename_i z m e hz hu
      split at h
      · rename_i n hn
        simp only [qv] at h
        split at h
        · rename_i vs hvs
          split at h
          · rename_i cs hcs
            obtain rfl := Option.some.inj h
            obtain ⟨zv, hz1, hz2⟩ := zerT_run hz w
            have hvs' := evp_ok hσ (df := df) hvs
            have hfill := lay_fill (place := fun i => some (i * n, n)) (ps := (parts.map fun p => (p.1, Act.eval ⟨ts, df⟩ p.2)).toList) (vs := vs) (cells := z) (out := cs) (by rw [hvs']; simp [Function.comp_def]) hcs
            simp only [execOp, Instr.build, Sem.run_bind, hz1, Result.andThen_ok, run_underlying hu, sizT_run hn]
            have hz3 : zv.cells = z.toArray := by rw [← hz2]
            simp only [hz3]
            simp only [hfill]
            rfl
          · cases h
        · cases h
      · simp [qv] at h
    · simp [qv] at h
  case load t x =>
    split at h
    · rename_i n hn
      cases n with
      | none =>
        simp only [qv] at h
        split at h
        · rename_i b o hx
          have := rd1_ok hH.own hH.seal_ h
          simp [execOp, Instr.loadAt, Instr.sureAddr, ev_ok hσ hx, run_loadVar_one hn this]
        · cases h
      | some n =>
        simp only [qv] at h
        split at h
        · rename_i b o hx
          split at h
          · rename_i vs hvs
            obtain rfl := Option.some.inj h
            obtain ⟨h1, h2⟩ := rdn_ok hH.own hH.seal_ hvs
            simp [execOp, Instr.loadAt, Instr.sureAddr, ev_ok hσ hx, run_loadVar_many hn h1 h2]
          · cases h
        · cases h
    · simp [qv] at h
  case store => split at h <;> simp [qv] at h
  case nilCheck x =>
    simp only [qv] at h
    split at h
    · rename_i a hx
      obtain rfl := Option.some.inj h
      simp [execOp, ev_ok hσ hx]
    · cases h
  case fieldAddr t x f =>
    split at h
    · rename_i fs hu
      split at h
      · rename_i fd hf
        split at h
        · rename_i n hn
          split at h
          · simp [qv] at h
          · rename_i hn0
            simp only [qv] at h
            split at h
            · rename_i b o hx
              obtain rfl := Option.some.inj h
              simp [execOp, Instr.fieldAt, run_underlying hu, hf, Instr.sureAddr, ev_ok hσ hx, fieldPlace, sizT_run hn, hn0, Addr.add_lit]
            · cases h
        · simp [qv] at h
      · simp [qv] at h
    · simp [qv] at h
  case field t x f =>
    split at h
    · rename_i fs hu
      split at h
      · rename_i fd hf
        split at h
        · rename_i n hn
          cases n with
          | none =>
            simp only [qv] at h
            split at h
            · rename_i cs hx
              simp [execOp, Instr.field, run_underlying hu, hf, asAgg, ev_ok hσ hx, run_part_one hn h]
            · cases h
          | some n =>
            simp only [qv] at h
            split at h
            · rename_i cs hx
              split at h
              · rename_i vs hvs
                obtain rfl := Option.some.inj h
                simp [execOp, Instr.field, run_underlying hu, hf, asAgg, ev_ok hσ hx, run_part_many hn hvs]
              · cases h
            · cases h
        · simp [qv] at h
      · simp [qv] at h
    · simp [qv] at h
  case buildSlice => (repeat' split at h) <;> simp [qv] at h
  case indexAddr t x i =>
    split at h
    · rename_i e hu
      split at h
      · rename_i z hz
        simp only [qv] at h
        split at h
        · rename_i b o len cap k j hx hi
          split at h
          · rename_i hj
            obtain rfl := Option.some.inj h
            simp [execOp, Instr.indexAt, run_underlying hu, asIntOf, ev_ok hσ hx, ev_ok hσ hi, hj, sizT_run hz, Addr.add_lit]
          · cases h
        · cases h
      · simp [qv] at h
    · rename_i m e hu
      split at h
      · rename_i z hz
        simp only [qv] at h
        split at h
        · rename_i b o k j hx hi
          split at h
          · rename_i hj
            obtain rfl := Option.some.inj h
            simp [execOp, Instr.indexAt, run_underlying hu, asIntOf, Instr.sureAddr, ev_ok hσ hx, ev_ok hσ hi, hj, sizT_run hz, Addr.add_lit]
          · cases h
        · cases h
      · simp [qv] at h
    · simp [qv] at h
  case index t x i =>
    split at h
    · rename_i m e hu
      split at h
      · rename_i n z hn hz
        cases n with
        | none =>
          simp only [qv] at h
          split at h
          · rename_i cs k j hx hi
            split at h
            · rename_i hj
              simp [execOp, Instr.index, run_underlying hu, asIntOf, ev_ok hσ hx, ev_ok hσ hi, hj, sizT_run hz, run_part_one hn h]
            · cases h
          · cases h
        | some n =>
          simp only [qv] at h
          split at h
          · rename_i cs k j hx hi
            split at h
            · rename_i hj
              split at h
              · rename_i vs hvs
                obtain rfl := Option.some.inj h
                simp [execOp, Instr.index, run_underlying hu, asIntOf, ev_ok hσ hx, ev_ok hσ hi, hj, sizT_run hz, run_part_many hn hvs]
              · cases h
            · cases h
          · cases h
      · simp [qv] at h
    · simp [qv] at h
  case binOp op t x y u =>
    split at h
    · rename_i hu
      cases op <;> first
        | (simp [qv] at h; done)
        | (simp only [qv] at h
           split at h
           · rename_i a b hx hy
             obtain rfl := Option.some.inj h
             simp only [execOp, ev_ok hσ hx, ev_ok hσ hy, Sem.run_bind, eqGuard_at_bool, Sem.run_pure, Result.andThen_ok, eqb_run hu, neb_run hu, if_true, if_false, Bool.false_eq_true]
           · cases h)
    · simp only [qv] at h
      split at h
      · rename_i a b hx hy
        have := bin_run (P := P) (w := w) (t := t) (x := x) (y := y) h
        rw [← ev_ok hσ (df := df) hx, ← ev_ok hσ (df := df) hy] at this
        simp only [execOp, Sem.run_bind] at this ⊢
        rw [this]; rfl
      · cases h
    · cases op <;> simp [qv] at h
    · cases op <;> simp [qv] at h
    · cases op <;> simp [qv] at h
    · simp [qv] at h
  case unOp op t x =>
    simp only [qv] at h
    split at h
    · rename_i a hx
      simp [execOp, ev_ok hσ hx, un_run h]
    · cases h
  case convert s d x =>
    split at h
    · rename_i ks k hs hd
      simp only [qv] at h
      split at h
      · rename_i k' n hx
        obtain rfl := Option.some.inj h
        simp [execOp, convert, run_underlying hs, run_underlying hd, ev_ok hσ hx, Conv.intToInt]
      · cases h
    · simp [qv] at h
  case sliceToArrayPointer t x =>
    split at h
    · rename_i n e hu
      simp only [qv] at h
      split at h
      · rename_i a len c hx
        split at h
        · rename_i hn
          obtain rfl := Option.some.inj h
          simp [execOp, ev_ok hσ hx, Instr.arrayAt, run_underlying hu, Nat.not_lt.2 hn]
        · cases h
      · cases h
    · simp [qv] at h
  case typeAssert x xt t ok =>
    split at h
    · simp [qv] at h
    · rename_i d hu hni
      split at h
      · rename_i z hz
        have hzz : (zeroValue t).run P w = .ok z w := by
          cases hi : P.info? t with
          | none => rw [hi] at hz; cases hz
          | some i => rw [hi] at hz; simp at hz; simp [zeroValue, typeInfo, hi, hz]
        simp only [qv] at h
        split at h
        · rename_i u v hx
          have hn : ∀ ms, d ≠ .interface ms := fun ms e => hu ms e
          by_cases hut : u = t
          · rw [if_pos hut] at h
            obtain rfl := Option.some.inj h
            subst hut
            cases ok <;> cases d <;> first | exact absurd rfl (hn _) | simp [execOp, ev_ok hσ hx, Instr.typeAssert, run_underlying hni]
          · rw [if_neg hut] at h
            cases ok with
            | false => simp at h
            | true =>
              simp only [if_true, Option.some.injEq] at h
              subst h
              cases d <;> first | exact absurd rfl (hn _) | simp [execOp, ev_ok hσ hx, Instr.typeAssert, run_underlying hni, hut, hzz]
        · rename_i hx
          have hn : ∀ ms, d ≠ .interface ms := fun ms e => hu ms e
          cases ok with
          | false => simp at h
          | true =>
            simp only [if_true, Option.some.injEq] at h
            subst h
            cases d <;> first | exact absurd rfl (hn _) | simp [execOp, ev_ok hσ hx, Instr.typeAssert, run_underlying hni, hzz]
        · cases h
      · simp [qv] at h
    · simp [qv] at h
  case makeInterface t x =>
    split at h
    · rename_i hc
      simp only [qv] at h
      split at h
      · rename_i u hx
        obtain rfl := Option.some.inj h
        simp [execOp, ev_ok hσ hx, run_makeInterface _ _ _ hc]
      · cases h
    · simp [qv] at h
  case makeFunc fn first caps =>
    split at h
    · rename_i f
      split at h
      · rename_i h0
        simp only [qv] at h
        split at h
        · rename_i vs hvs
          obtain rfl := Option.some.inj h
          have := evs_ok hσ (df := df) hvs
          have h1 : first = #[] := Array.eq_empty_of_size_eq_zero h0
          subst h1
          have h2 : caps.map (Act.eval ⟨ts, df⟩) = vs.toArray := by apply Array.ext'; simpa using this
          simp [execOp, Instr.makeFunc, h2]
        · cases h
      · simp [qv] at h
    · simp [qv] at h
  case extract x i =>
    simp only [qv] at h
    split at h
    · rename_i vs hx
      have h' : vs[i]? = some v := by simpa using h
      simp [execOp, Instr.extract, ev_ok hσ hx, h']
    · cases h
  case slice t x lo hi mx =>
    cases mx with
    | some m => simp [qv] at h
    | none =>
      simp only at h
      split at h
      · rename_i e hu
        split at h
        · rename_i z hz
          simp only [qv] at h
          split at h
          · rename_i b o len cap lo' hi' hx hlo hhi
            split at h
            · rename_i hh hb
              split at h
              · rename_i l hl
                obtain rfl := Option.some.inj h
                have e1 := evo_ok hσ (df := df) hlo
                have e2 := evo_ok hσ (df := df) hhi
                have hsb : (Instr.sliceBounds true len cap (lo.map (Act.eval ⟨ts, df⟩)) (hi.map (Act.eval ⟨ts, df⟩)) none).run P w = .ok (l, hh, cap) w := by
                  rw [e1, e2]
                  have h2 : (match hi' with | some v => Instr.sliceBound v cap .sliceAcap | none => (pure len : Sem Nat)).run P w = .ok hh w := by
                    cases hi' with
                    | none => simp at hb; subst hb; simp
                    | some v => exact (bnd_run (Nat.min_le_right _ _) hb).1
                  have h3 : (match lo' with | some v => Instr.sliceBound v hh .sliceB | none => (pure 0 : Sem Nat)).run P w = .ok l w := by
                    cases lo' with
                    | none => simp at hl; subst hl; simp
                    | some v => exact (bnd_run (Nat.le_refl _) hl).1
                  cases hi' <;> cases lo' <;> simp_all [Instr.sliceBounds]
                simp only [execOp, Instr.sliceAt, Sem.run_bind, run_underlying hu, Result.andThen_ok, Instr.slice, ev_ok hσ hx, Option.map_none, hsb, sizT_run hz, Sem.run_pure]
                congr 3
                split <;> simp [Addr.add_lit]
              · cases h
            · cases h
          · cases h
        · simp [qv] at h
      · rename_i m e hu
        split at h
        · rename_i z hz
          simp only [qv] at h
          split at h
          · rename_i b o lo' hi' hx hlo hhi
            split at h
            · rename_i hh hb
              split at h
              · rename_i l hl
                obtain rfl := Option.some.inj h
                have e1 := evo_ok hσ (df := df) hlo
                have e2 := evo_ok hσ (df := df) hhi
                have hsb : (Instr.sliceBounds false m m (lo.map (Act.eval ⟨ts, df⟩)) (hi.map (Act.eval ⟨ts, df⟩)) none).run P w = .ok (l, hh, m) w := by
                  rw [e1, e2]
                  have h2 : (match hi' with | some v => Instr.sliceBound v m .sliceAlen | none => (pure m : Sem Nat)).run P w = .ok hh w := by
                    cases hi' with
                    | none => simp at hb; subst hb; simp
                    | some v => exact (bnd_run (Nat.le_refl _) hb).1
                  have h3 : (match lo' with | some v => Instr.sliceBound v hh .sliceB | none => (pure 0 : Sem Nat)).run P w = .ok l w := by
                    cases lo' with
                    | none => simp at hl; subst hl; simp
                    | some v => exact (bnd_run (Nat.le_refl _) hl).1
                  cases hi' <;> cases lo' <;> simp_all [Instr.sliceBounds]
                simp only [execOp, Instr.sliceAt, Sem.run_bind, run_underlying hu, Result.andThen_ok, ev_ok hσ hx, Instr.sureAddr, Option.map_none, hsb, sizT_run hz, Sem.run_pure]
                congr 3
                split <;> simp [Addr.add_lit]
              · cases h
            · cases h
          · cases h
        · simp [qv] at h
      · simp [qv] at h
  case call c =>
    obtain ⟨callee, args, argTypes⟩ := c
    simp only at h
    split at h
    · split at h
      · rename_i t x hat har
        split at h
        · rename_i e hu
          simp only [qv] at h
          split at h
          · rename_i a n cp hx
            obtain rfl := Option.some.inj h
            have h1 : argTypes = #[t] := by apply Array.ext'; simpa using hat
            have h2 : args = #[x] := by apply Array.ext'; simpa using har
            subst h1 h2
            simp [execOp, resolve, invoke, builtin, Builtin.len_, run_underlying hu, ev_ok hσ hx, goInt]
          · cases h
        · rename_i n e hu
          simp only [qv] at h
          obtain rfl := Option.some.inj h
          have h1 : argTypes = #[t] := by apply Array.ext'; simpa using hat
          have h2 : args = #[x] := by apply Array.ext'; simpa using har
          subst h1 h2
          simp [execOp, resolve, invoke, builtin, Builtin.len_, run_underlying hu, goInt]
        · simp [qv] at h
      · simp [qv] at h
    · simp only [qv] at h
      split at h
      · rename_i v0 vs hvs
        have e1 := evs_ok hσ (df := df) hvs
        have e2 := mm_run (P := P) (w := w) h
        have e3 : (args.map (Act.eval ⟨ts, df⟩)).toList = v0 :: vs := by simpa using e1
        simp only [if_true] at e2
        simp [execOp, resolve, invoke, builtin, Builtin.max_, e1, e2]
      · cases h
    · simp only [qv] at h
      split at h
      · rename_i v0 vs hvs
        have e1 := evs_ok hσ (df := df) hvs
        have e2 := mm_run (P := P) (w := w) h
        simp only [Bool.false_eq_true, if_false] at e2
        simp [execOp, resolve, invoke, builtin, Builtin.min_, e1, e2]
      · cases h
    all_goals ((repeat' split at h) <;> simp [qv] at h)
  case makeSlice t l c => (repeat' split at h) <;> simp [qv] at h
  all_goals simp [qv] at h
end Go.Proofs.YtobjaddicodiaaaDoorE
end

section
/- Triples for lists of operations in their order. -/
namespace Go.Proofs.YtobjaddicodiaaaDoorE
open Go Go.RowKit

structure O where
  d : Option Nat
  k : K
  g : Option (Nat × Bool)

abbrev oq (d : Nat) (k : K) : O := ⟨some d, k, none⟩
def okF (P : Program) (f : FuncId) : Bool := match P.funcs[f]? with
  | some fn => fn.body.isSome && !(fn.name == "runtime.NumGoroutine")
  | none => false

def toO (P : Program) (N : Nat) (all : Array Oper) (o : Oper) : O :=
  match o.guard with
  | none => ⟨o.dst, if o.dst.all (· < N) then toK P o.op else .fail, none⟩
  | some (j, b) => match (all[j]?).bind (·.dst) with
    | some t => ⟨o.dst, if o.dst.all (· < N) then toK P o.op else .fail, some (t, b)⟩
    | none => ⟨o.dst, .fail, none⟩

def wtd (σ : Sl) : Option (Nat × Bool) → Option Bool
  | none => some true
  | some (t, b) => match gt σ t with
    | some (.bool c) => some (c == b)
    | some (.tuple _) => some false
    | _ => none

theorem toO_k {P : Program} {N : Nat} {all : Array Oper} {o : Oper} (h : (toO P N all o).k ≠ .fail) : (toO P N all o).k = toK P o.op ∧ (∀ t, o.dst = some t → t < N) := by
  unfold toO at h ⊢
  split
  · rename_i hg
    rw [hg] at h
    simp only at h ⊢
    split
    · rename_i hd
      exact ⟨rfl, fun t ht => by simpa [ht] using hd⟩
    · rename_i hd; rw [if_neg hd] at h; exact absurd rfl h
  · rename_i j b hg
    rw [hg] at h
    simp only at h ⊢
    split
    · rename_i t ht
      rw [ht] at h
      simp only at h ⊢
      split
      · rename_i hd
        exact ⟨rfl, fun t ht => by simpa [ht] using hd⟩
      · rename_i hd; rw [if_neg hd] at h; exact absurd rfl h
    · rename_i ht; rw [ht] at h; exact absurd rfl h
theorem toO_d {P : Program} {N : Nat} {all : Array Oper} {o : Oper} : (toO P N all o).d = o.dst := by
  unfold toO
  split <;> (try split) <;> rfl
theorem toO_w {P : Program} {N : Nat} {all : Array Oper} {o : Oper} {σ : Sl} {ts : Array Value} (hσ : SlOK σ ts) {b : Bool} (h : wtd σ (toO P N all o).g = some b) (hk : (toO P N all o).k ≠ .fail) :
    Region.wanted o (yielded all ts) = b := by
  unfold toO at h hk
  unfold Region.wanted
  split
  · rename_i hg
    rw [hg] at h
    simp only [wtd] at h
    exact Option.some.inj h
  · rename_i j want hg
    rw [hg] at h hk
    simp only at h hk
    split at h
    · rename_i t ht
      simp only [wtd] at h
      split at h
      · rename_i c hc
        have := hσ _ _ hc
        obtain rfl := Option.some.inj h
        simp only [yielded, ht, Option.bind_some, this]
        cases c <;> cases want <;> rfl
      · rename_i c hc
        have := hσ _ _ hc
        obtain rfl := Option.some.inj h
        simp only [yielded, ht, Option.bind_some, this]
        cases want <;> rfl
      · cases h
    · rename_i ht; rw [ht] at hk; exact absurd rfl hk

abbrev Pst := Sl → List Own → Seal → Prop

/-- A list of operations, in its order, from slots and memory to what follows. -/
def T (P : Program) (N : Nat) (all : Array Oper) (ops : List O) (σ : Sl) (H : List Own) (S : Seal) (Q : Pst) : Prop :=
  ∀ (L : List Oper), L.map (toO P N all) = ops → ∀ (ts : Array Value) (w : World) (R : Exit → Act → World → Prop), SlOK σ ts → ts.size = N → HOK H S w →
    (∀ σ' H' S' ts' w', Q σ' H' S' → SlOK σ' ts' → ts'.size = N → HOK H' S' w' → Step H S w H' S' w' → R .normal ⟨ts', []⟩ w') → wpList P all R L ⟨ts, []⟩ w

section
variable {P : Program} {N : Nat} {all : Array Oper} {r : List O} {o : O} {σ : Sl} {H : List Own} {S : Seal} {Q : Pst}

theorem put_form (ts : Array Value) (d : Option Nat) (v : Value) : Act.put ⟨ts, []⟩ d v = ⟨(Act.put ⟨ts, []⟩ d v).tmps, []⟩ := by cases d <;> rfl
theorem put_size (ts : Array Value) (d : Option Nat) (v : Value) : (Act.put ⟨ts, []⟩ d v).tmps.size = ts.size := by cases d <;> simp [Act.put]

theorem t_nil (h : Q σ H S) : T P N all [] σ H S Q := by
  intro L hL ts w R hσ hN hH hR
  have : L = [] := by simpa using hL
  subst this
  exact hR _ _ _ _ _ h hσ hN hH (Step.refl _ _ _)

/-- One operation: what it is to show. -/
theorem t_op (hk : o.k ≠ .fail) (hw : wtd σ o.g = some true)
    (h : ∀ (p : Oper) (ts : Array Value) (w : World) (K : Act → World → Prop) (R : Exit → Act → World → Prop), toK P p.op = o.k → p.dst = o.d → (∀ t, p.dst = some t → t < ts.size) → SlOK σ ts → HOK H S w →
      (∀ v σ1 H1 S1 w1, (SlOK σ1 (Act.put ⟨ts, []⟩ o.d v).tmps) → HOK H1 S1 w1 → Step H S w H1 S1 w1 → T P N all r σ1 H1 S1 Q → K (Act.put ⟨ts, []⟩ o.d v) w1) → p.wp P ⟨ts, []⟩ w K R) :
    T P N all (o :: r) σ H S Q := by
  intro L hL ts w R hσ hN hH hR
  cases L with
  | nil => simp at hL
  | cons p L =>
    simp only [List.map_cons, List.cons.injEq] at hL
    obtain ⟨h1, h2⟩ := hL
    subst h1
    obtain ⟨hk1, hd⟩ := toO_k hk
    have hwt := toO_w hσ hw hk
    unfold wpList
    rw [if_pos (by simpa using hwt)]
    refine Or.inl ?_
    refine h p ts w _ R hk1.symm toO_d.symm (fun t ht => by rw [hN]; exact hd t ht) hσ hH ?_
    intro v σ1 H1 S1 w1 hσ1 hH1 st hT
    rw [put_form]
    refine hT L h2 _ w1 R hσ1 (by rw [put_size]; exact hN) hH1 ?_
    intro σ2 H2 S2 ts2 w2 hq hs hn hh st2
    exact hR _ _ _ _ _ hq hs hn hh (st.trans st2)

theorem t_skip (hk : o.k ≠ .fail) (hw : wtd σ o.g = some false) (h : T P N all r (pt σ o.d undef) H S Q) : T P N all (o :: r) σ H S Q := by
  intro L hL ts w R hσ hN hH hR
  cases L with
  | nil => simp at hL
  | cons p L =>
    simp only [List.map_cons, List.cons.injEq] at hL
    obtain ⟨h1, h2⟩ := hL
    subst h1
    obtain ⟨hk1, hd⟩ := toO_k hk
    have hwt := toO_w hσ hw hk
    unfold wpList
    rw [if_neg (by simp [hwt])]
    rw [put_form]
    refine h L h2 _ w R ?_ (by rw [put_size]; exact hN) hH hR
    rw [toO_d]
    exact hσ.pt (fun t ht => by rw [hN]; exact hd t ht) []

def isFail : K → Bool
  | .fail => true
  | _ => false
/-- So many quiet operations at once. -/
def qn (H : List Own) (S : Seal) : Nat → List O → Sl → Option (List O × Sl)
  | 0, l, σ => some (l, σ)
  | _ + 1, [], _ => none
  | n + 1, o :: r, σ => match wtd σ o.g with
    | some true => match qv H S σ o.k with
      | some v => qn H S n r (pt σ o.d v)
      | none => none
    | some false => if isFail o.k then none else qn H S n r (pt σ o.d undef)
    | none => none
theorem toK_new {P : Program} {op : Op} {z : List Value} (h : toK P op = .new z) : ∃ t, op = .alloc t ∧ zerT P t = some z := by
  cases op
  case slice t x lo hi mx => cases mx <;> simp only [toK] at h <;> (repeat' split at h) <;> cases h
  case alloc t =>
    simp only [toK] at h
    split at h
    · rename_i z' hz; injection h with h; subst h; exact ⟨t, rfl, hz⟩
    · cases h
  all_goals (simp only [toK] at h; (try (repeat' split at h)) <;> cases h)
theorem toK_box {P : Program} {op : Op} {x : Operand} (h : toK P op = .box x) : ∃ t, op = .box t x := by
  cases op
  case slice t x lo hi mx => cases mx <;> simp only [toK] at h <;> (repeat' split at h) <;> cases h
  case box t y => simp only [toK] at h; injection h with h; subst h; exact ⟨t, rfl⟩
  all_goals (simp only [toK] at h; (try (repeat' split at h)) <;> cases h)
theorem toK_st {P : Program} {op : Op} {n : Nat} {x v : Operand} (h : toK P op = .st n x v) : ∃ t, op = .store t x v ∧ sizT P t = some n := by
  cases op
  case slice t x lo hi mx => cases mx <;> simp only [toK] at h <;> (repeat' split at h) <;> cases h
  case store t y u =>
    simp only [toK] at h
    split at h
    · rename_i m hz; injection h with h1 h2 h3; subst h1 h2 h3; exact ⟨t, rfl, hz⟩
    · cases h
  all_goals (simp only [toK] at h; (try (repeat' split at h)) <;> cases h)

/-- Fresh: nobody's block. -/
def Fr (b : Nat) : List Own → Prop
  | [] => True
  | e :: r => e.b ≠ some b ∧ Fr b r
theorem Fr.of {b : Nat} : ∀ {H : List Own}, b ∉ bs H → Fr b H
  | [], _ => trivial
  | e :: r, h => ⟨fun he => h (mem_bs.2 ⟨e, by simp, he⟩), Fr.of fun hm => h (by obtain ⟨f, hf, hb⟩ := mem_bs.1 hm; exact mem_bs.2 ⟨f, by simp [hf], hb⟩)⟩

theorem HOK.alloc {w : World} (hH : HOK H S w) (cs : Array Value) (t : TypeId) : HOK (⟨some w.heap.size, cs.toList, cs.size⟩ :: H) S (w.alloc (.cells cs t)) ∧ Step H S w (⟨some w.heap.size, cs.toList, cs.size⟩ :: H) S (w.alloc (.cells cs t)) := by
  have hx : Ext (bs H) w (w.alloc (.cells cs t)) := ⟨rfl, rfl, rfl, by simp, fun k hk _ => Below.heap_alloc _ _ _ hk⟩
  have hx0 : Ext [] w (w.alloc (.cells cs t)) := ⟨rfl, rfl, rfl, by simp, fun k hk _ => Below.heap_alloc _ _ _ hk⟩
  obtain ⟨f1, f2⟩ := hH.fresh (Nat.le_refl _)
  refine ⟨⟨?_, ?_, ?_, ?_, fun b hb => ⟨fun hm => ?_, ?_⟩⟩, ⟨hx, ?_, fun _ _ h => Or.inl h, fun _ _ h => h, rfl⟩⟩
  · intro e he
    rcases List.mem_cons.1 he with rfl | he
    · exact Or.inr ⟨_, rfl, cs, t, by show (w.heap.push _)[w.heap.size]? = _; simp, rfl, by simp, fun i v h => by simpa using h⟩
    · exact Own.keep (hH.own e he) hx0 (by simp)
  · rw [bs_some, List.nodup_cons]; exact ⟨f1, hH.nd⟩
  · intro e he
    rw [bs_some] at he
    rcases List.mem_cons.1 he with rfl | he
    · exact f2
    · exact hH.dis e he
  · intro b l hb
    obtain ⟨arr, T, z, h1, h2⟩ := hH.seal_ b l hb
    exact ⟨arr, T, z, by rw [hx0.block _ (Array.getElem?_eq_some_iff.1 h1).1 (by simp)]; exact h1, h2⟩
  · rw [bs_some] at hm
    obtain ⟨arr, T, h1⟩ := (hH.pl_ b hb).2
    rcases List.mem_cons.1 hm with rfl | hm
    · have := (Array.getElem?_eq_some_iff.1 h1).1
      omega
    · exact (hH.pl_ b hb).1 hm
  · obtain ⟨arr, T, h1⟩ := (hH.pl_ b hb).2
    exact ⟨arr, T, by rw [hx0.block _ (Array.getElem?_eq_some_iff.1 h1).1 (by simp)]; exact h1⟩
  · intro b he
    rw [bs_some] at he
    rcases List.mem_cons.1 he with rfl | he
    · exact Or.inr (Nat.le_refl _)
    · exact Or.inl he

end
end Go.Proofs.YtobjaddicodiaaaDoorE
end

section
/- Stores and calls. -/
namespace Go.Proofs.YtobjaddicodiaaaDoorE
open Go Go.RowKit

def stl (l : List Value) (o : Nat) (vs : List Value) : Option (List Value) := if o + vs.length ≤ l.length then some (l.take o ++ vs ++ l.drop (o + vs.length)) else none
def stH : List Own → Nat → Nat → List Value → Option (List Own)
  | [], _, _, _ => none
  | e :: r, b, o, vs => if e.b = some b then (match stl e.cs o vs with
      | some cs => some (⟨e.b, cs, e.n⟩ :: r)
      | none => none) else match stH r b o vs with
    | some r' => some (e :: r')
    | none => none

/-- A store into one's own block. -/
theorem own_store {P : Program} {e : Own} {w : World} {b : Nat} (h : e.okAt b w) {o : Nat} {vs cs : List Value} (hs : stl e.cs o vs = some cs) (h1 : ∀ v ∈ vs, v.oneCell' = true) :
    ∃ w', (storeCells ⟨b, o, none⟩ vs).run P w = .ok () w' ∧ (Own.mk e.b cs e.n).okAt b w' ∧ Ext [b] w w' := by
  obtain ⟨arr, T, hh, hsz, hle, hc⟩ := h
  unfold stl at hs
  split at hs
  · rename_i hl
    obtain rfl := Option.some.inj hs
    have hr := run_storeCells_at P b o T vs 0 arr w hh (by omega) h1
    simp only [Nat.add_zero] at hr
    refine ⟨_, hr, ⟨_, T, setRow_heap w b arr _ T _ hh, ?_, ?_, ?_⟩, ⟨rfl, rfl, rfl, by simp [World.setRow], ?_⟩⟩
    · simp; omega
    · simp; omega
    · intro i v hi
      simp only [List.getElem?_append, List.length_append, List.length_take, List.getElem?_take, List.getElem?_drop] at hi
      simp only [List.getElem?_toArray, List.getElem?_append, List.length_append, List.length_take, List.getElem?_take, List.getElem?_drop, Array.length_toList, Array.getElem?_toList]
      have m1 : min o e.cs.length = o := by omega
      have m2 : min o arr.size = o := by omega
      rw [m1] at hi
      rw [m2]
      by_cases c1 : i < o
      · have c2 : i < o + vs.length := by omega
        simp only [c1, c2, if_true] at hi ⊢
        exact hc _ _ hi
      · by_cases c2 : i < o + vs.length
        · simp only [c1, c2, if_true, if_false] at hi ⊢
          exact hi
        · simp only [c2, if_false] at hi ⊢
          exact hc _ _ hi
    · intro k hk hO
      simp only [World.setRow, Array.getElem?_modify]
      rw [if_neg (by simpa [eq_comm] using hO)]
  · cases hs

theorem stH_ok {P : Program} {w : World} {S : Seal} {b o : Nat} {vs : List Value} (h1 : ∀ v ∈ vs, v.oneCell' = true) : ∀ {H H' : List Own}, HOK H S w → stH H b o vs = some H' →
    ∃ w', (storeCells ⟨b, o, none⟩ vs).run P w = .ok () w' ∧ HOK H' S w' ∧ Step H S w H' S w' := by
  intro H H' hH hs
  obtain ⟨A, e, B, cs, rfl, rfl, heb, hst⟩ : ∃ A e B cs, H = A ++ e :: B ∧ H' = A ++ ⟨e.b, cs, e.n⟩ :: B ∧ e.b = some b ∧ stl e.cs o vs = some cs := by
    clear hH
    induction H generalizing H' with
    | nil => simp [stH] at hs
    | cons e r ih =>
      unfold stH at hs
      split at hs
      · rename_i he
        split at hs
        · rename_i cs hcs
          obtain rfl := Option.some.inj hs
          exact ⟨[], e, r, cs, rfl, rfl, he, hcs⟩
        · cases hs
      · split at hs
        · rename_i r' hr
          obtain rfl := Option.some.inj hs
          obtain ⟨A, f, B, cs, rfl, rfl, h3, h4⟩ := ih hr
          exact ⟨e :: A, f, B, cs, rfl, rfl, h3, h4⟩
        · cases hs
  have hok : e.okAt b w := by
    rcases hH.own e (by simp) with ⟨h0, _⟩ | ⟨b', h0, h⟩
    · rw [h0] at heb; cases heb
    · rw [h0] at heb; obtain rfl := Option.some.inj heb; exact h
  obtain ⟨w', hr, ho, hx⟩ := own_store (P := P) hok hst h1
  have hp : (A ++ e :: B).Perm ([e] ++ (A ++ B)) := List.perm_middle
  have hp' : (A ++ (⟨e.b, cs, e.n⟩ : Own) :: B).Perm ([⟨e.b, cs, e.n⟩] ++ (A ++ B)) := List.perm_middle
  have hH2 := hH.perm hp
  have hbs : bs [e] = [b] := by simp [bs, heb]
  have hbs' : bs [(⟨e.b, cs, e.n⟩ : Own)] = [b] := by simp [bs, heb]
  have hd : S b = none := hH.dis b (mem_bs.2 ⟨e, by simp, heb⟩)
  have hSw : ∀ (b : Nat) (l : List Value), S b = some l → ∃ (arr : Array Value) (T : TypeId) (z : Nat × Nat), w'.heap[b]? = some (.cells arr T z) ∧ ∀ (i : Nat) (v : Value), l[i]? = some v → arr[i]? = some v := by
    intro k l hk
    obtain ⟨arr, T, z, g1, g2⟩ := hH.seal_ k l hk
    refine ⟨arr, T, z, ?_, g2⟩
    rw [hx.block _ (Array.getElem?_eq_some_iff.1 g1).1 ?_]
    · exact g1
    · intro hm
      have : k = b := by simpa using hm
      subst this
      rw [hd] at hk; cases hk
  have h' : HOK [(⟨e.b, cs, e.n⟩ : Own)] S w' := ⟨by intro f hf; obtain rfl := List.mem_singleton.1 hf; exact Or.inr ⟨b, heb, ho⟩, by rw [hbs']; simp, by intro k hk; rw [hbs'] at hk; obtain rfl := List.mem_singleton.1 hk; exact hd, hSw, fun k hk => ⟨fun hm => (hH.pl_ k hk).1 (by rw [hbs'] at hm; obtain rfl := List.mem_singleton.1 hm; exact mem_bs.2 ⟨e, by simp, heb⟩), by
    obtain ⟨arr, T, g1⟩ := (hH.pl_ k hk).2
    refine ⟨arr, T, ?_⟩
    rw [hx.block _ (Array.getElem?_eq_some_iff.1 g1).1 (fun hm => (hH.pl_ k hk).1 (by obtain rfl := List.mem_singleton.1 hm; exact mem_bs.2 ⟨e, by simp, heb⟩))]
    exact g1⟩⟩
  have st : Step [e] S w [(⟨e.b, cs, e.n⟩ : Own)] S w' := ⟨by rw [hbs]; exact hx, by intro k hk; rw [hbs'] at hk; rw [hbs]; exact Or.inl hk, fun _ _ h => Or.inl h, fun _ _ h => h, rfl⟩
  obtain ⟨q1, q2⟩ := hH2.frame h' st
  refine ⟨w', hr, q1.perm hp'.symm, ?_⟩
  have q3 := q2.perm hp.symm
  exact ⟨q3.ext, fun f hf => q3.new f ((bs_perm hp').mem_iff.1 hf), q3.snew, q3.sold, q3.spl⟩

/-- What a function comes to: over its arguments, what it owns, what is sealed. -/
def Cal (P : Program) (f : FuncId) (args : List Value) (H : List Own) (S : Seal) (Q : Value → List Own → Seal → Prop) : Prop :=
  ∀ w, HOK H S w → Calls P f args.toArray w fun e w' => ∃ v H' S', e = .returned v ∧ Q v H' S' ∧ HOK H' S' w' ∧ Step H S w H' S' w'

theorem Cal.mono {P : Program} {f : FuncId} {args : List Value} {H : List Own} {S : Seal} {Q Q' : Value → List Own → Seal → Prop} (h : Cal P f args H S Q) (hq : ∀ v H' S', Q v H' S' → Q' v H' S') : Cal P f args H S Q' :=
  fun w hw => (h w hw).mono fun _ _ ⟨v, H', S', a, b, c, d⟩ => ⟨v, H', S', a, hq _ _ _ b, c, d⟩

section
variable {P : Program} {N : Nat} {all : Array Oper} {r : List O} {o : O} {σ : Sl} {H : List Own} {S : Seal} {Q : Pst}

theorem run_storeVar' {P : Program} {t : TypeId} {n : Nat} (hn : sizT P t = some n) {w w' : World} {b o : Nat} {v : Value} (hl : (cl v).length = n) (h : (storeCells ⟨b, o, none⟩ (cl v)).run P w = .ok () w') : (storeVar t ⟨b, o, none⟩ v).run P w = .ok () w' := by
  have e : v.cells.size = n := by simpa [cl] using hl
  simp only [storeVar, Sem.run_bind, sizT_run hn, Result.andThen_ok]
  rw [if_neg (by simp [e])]
  exact h

theorem t_st {n : Nat} {x y : Operand} {b k : Nat} {v : Value} {H' : List Own} (hk : o.k = .st n x y) (hw : wtd σ o.g = some true) (hx : ev σ x = some (.pointer (some ⟨b, k, none⟩))) (hy : ev σ y = some v)
    (hl : (cl v).length = n) (h1 : (cl v).all (·.oneCell') = true) (hs : stH H b k (cl v) = some H') (h : T P N all r (pt σ o.d undef) H' S Q) : T P N all (o :: r) σ H S Q := by
  refine t_op (fun e => by rw [hk] at e; cases e) hw ?_
  intro p ts w K R hkp hd hlt hσ hH hK
  obtain ⟨dst, op, type, pos, after, guard⟩ := p
  rw [hk] at hkp
  obtain ⟨t, rfl, hn⟩ := toK_st hkp
  obtain ⟨w', hr, a1, a2⟩ := stH_ok (P := P) (fun v hv => List.all_eq_true.1 h1 v hv) hH hs
  unfold Oper.wp
  have : (execOp (Act.eval ⟨ts, []⟩) ⟨dst, .store t x y, type, pos, after, guard⟩).run P w = .ok .skip w' := by
    simp [execOp, Instr.storeAt, Instr.sureAddr, ev_ok hσ hx, ev_ok hσ hy, run_storeVar' hn hl hr]
  rw [this, Oper.upon_skip, hd]
  exact hK _ _ _ _ _ (hσ.pt (fun t ht => hlt t (by rw [hd]; exact ht)) []) a1 a2 h

theorem run_callFunc {f : FuncId} {args : Array Value} {w : World} (h : okF P f = true) : (callFunc f args).run P w = .ok (.enter f args) w := by
  unfold okF at h
  split at h
  · rename_i fn hf
    simp only [Bool.and_eq_true, Bool.not_eq_true'] at h
    have hb : fn.body ≠ none := fun e => by rw [e] at h; simp at h
    have hn : fn.name ≠ "runtime.NumGoroutine" := by simpa using h.2
    simp [callFunc, hf, hn, hb]
  · cases h

theorem toK_call {op : Op} {f : FuncId} {xs : List Operand} (h : toK P op = .call f xs) : ∃ c : Call, op = .call c ∧ c.callee = .value (.func f) ∧ c.args.toList = xs ∧ okF P f = true := by
  cases op
  case slice t x lo hi mx => cases mx <;> simp only [toK] at h <;> (repeat' split at h) <;> cases h
  case call c =>
    simp only [toK] at h
    split at h
    case h_5 g hc =>
      split at h
      · rename_i fn hf
        split at h
        · rename_i hok
          injection h with h1 h2
          subst h1
          exact ⟨c, rfl, hc, h2, by unfold okF; rw [hf]; exact hok⟩
        · cases h
      · cases h
    all_goals ((try (repeat' split at h)) <;> cases h)
  all_goals (simp only [toK] at h; (try (repeat' split at h)) <;> cases h)
theorem toK_clo {op : Op} {x : Operand} {xs : List Operand} (h : toK P op = .clo x xs) : ∃ c : Call, op = .call c ∧ c.callee = .value x ∧ c.args.toList = xs := by
  cases op
  case slice t x lo hi mx => cases mx <;> simp only [toK] at h <;> (repeat' split at h) <;> cases h
  case call c =>
    simp only [toK] at h
    split at h
    case h_6 y hc hne =>
      injection h with h1 h2
      subst h1
      exact ⟨c, rfl, by assumption, h2⟩
    all_goals ((try (repeat' split at h)) <;> cases h)
  all_goals (simp only [toK] at h; (try (repeat' split at h)) <;> cases h)

theorem call_post {f : FuncId} {vs : List Value} {H1 F : List Own} {Qc : Value → List Own → Seal → Prop} {w : World} {K : Act → World → Prop} {R : Exit → Act → World → Prop} {a : Act} (hp : H.Perm (H1 ++ F)) (hc : Cal P f vs H1 S Qc) (hH : HOK H S w)
    (hK : ∀ v H' S' w', Qc v H' S' → HOK (H' ++ F) S' w' → Step H S w (H' ++ F) S' w' → K (a.put o.d v) w') :
    Calls P f vs.toArray w fun
      | .returned v, w'' => K (a.put o.d v) w''
      | .panicked chain, w'' => R (.panic chain) a w''
      | .outgrown, _ => LetsOut R := by
  have hH2 := hH.perm hp
  refine (hc w hH2.drop).mono ?_
  rintro e w' ⟨v, H', S', rfl, q, h', st⟩
  obtain ⟨a1, a2⟩ := hH2.frame h' st
  exact hK v H' S' w' q a1 (a2.perm hp.symm)

theorem t_call {f : FuncId} {xs : List Operand} {vs : List Value} {H1 F : List Own} {Qc : Value → List Own → Seal → Prop} (hk : o.k = .call f xs) (hw : wtd σ o.g = some true) (hx : evs σ xs = some vs) (hp : H.Perm (H1 ++ F))
    (hc : Cal P f vs H1 S Qc) (h : ∀ v H' S', Qc v H' S' → T P N all r (pt σ o.d v) (H' ++ F) S' Q) : T P N all (o :: r) σ H S Q := by
  refine t_op (fun e => by rw [hk] at e; cases e) hw ?_
  intro p ts w K R hkp hd hlt hσ hH hK
  obtain ⟨dst, op, type, pos, after, guard⟩ := p
  rw [hk] at hkp
  obtain ⟨c, rfl, c1, c2, c3⟩ := toK_call hkp
  obtain ⟨callee, args, ats⟩ := c
  simp only at c1 c2
  subst c1
  have e1 := evs_ok hσ (df := []) hx
  have e2 : args.map (Act.eval ⟨ts, []⟩) = vs.toArray := by apply Array.ext'; rw [← e1, ← c2]; simp
  unfold Oper.wp
  have : (execOp (Act.eval ⟨ts, []⟩) ⟨dst, .call ⟨.value (.func f), args, ats⟩, type, pos, after, guard⟩).run P w = .ok (.enter f vs.toArray) w := by
    simp [execOp, resolve, Act.eval, Deferred.ofValue, invoke, e2, run_callFunc c3]
  rw [this, Oper.upon_enter]
  refine call_post (o := ⟨dst, .fail, none⟩) hp hc hH ?_
  intro v H' S' w' q a1 a2
  simp only at hd ⊢
  rw [hd]
  exact hK v _ _ _ _ (hσ.pt (fun t ht => hlt t (by simp only; rw [hd]; exact ht)) []) a1 a2 (h v H' S' q)

theorem t_clo {x : Operand} {f : FuncId} {caps : Array Value} {xs : List Operand} {vs : List Value} {H1 F : List Own} {Qc : Value → List Own → Seal → Prop} (hk : o.k = .clo x xs) (hw : wtd σ o.g = some true) (hf : ev σ x = some (.func (.func f) #[] caps)) (hok : okF P f = true)
    (hx : evs σ xs = some vs) (hp : H.Perm (H1 ++ F)) (hc : Cal P f (vs ++ caps.toList) H1 S Qc) (h : ∀ v H' S', Qc v H' S' → T P N all r (pt σ o.d v) (H' ++ F) S' Q) : T P N all (o :: r) σ H S Q := by
  refine t_op (fun e => by rw [hk] at e; cases e) hw ?_
  intro p ts w K R hkp hd hlt hσ hH hK
  obtain ⟨dst, op, type, pos, after, guard⟩ := p
  rw [hk] at hkp
  obtain ⟨c, rfl, c1, c2⟩ := toK_clo hkp
  obtain ⟨callee, args, ats⟩ := c
  simp only at c1 c2
  subst c1
  have e1 := evs_ok hσ (df := []) hx
  have e2 : args.map (Act.eval ⟨ts, []⟩) = vs.toArray := by apply Array.ext'; rw [← e1, ← c2]; simp
  unfold Oper.wp
  have : (execOp (Act.eval ⟨ts, []⟩) ⟨dst, .call ⟨.value x, args, ats⟩, type, pos, after, guard⟩).run P w = .ok (.enter f (vs ++ caps.toList).toArray) w := by
    simp [execOp, resolve, ev_ok hσ hf, Deferred.ofValue, invoke, e2, run_callFunc hok]
  rw [this, Oper.upon_enter]
  refine call_post (o := ⟨dst, .fail, none⟩) hp hc hH ?_
  intro v H' S' w' q a1 a2
  simp only at hd ⊢
  rw [hd]
  exact hK v _ _ _ _ (hσ.pt (fun t ht => hlt t (by simp only; rw [hd]; exact ht)) []) a1 a2 (h v H' S' q)
end
end Go.Proofs.YtobjaddicodiaaaDoorE
end

section
/- Triples for code and for whole functions. -/
namespace Go.Proofs.YtobjaddicodiaaaDoorE
open Go Go.RowKit
set_option linter.unusedVariables false
set_option linter.unusedSimpArgs false

inductive C where
  | skip | ret | bad
  | seq (a b : C)
  | reg (ops : List O)
  | drw (ops : List O) (ds : List (List Nat))
  | cond (x : Operand) (a b : C)
  | block (id : Nat) (c : C)
  | loop (c : C)
  | exit (id : Nat)

def depsOf (o : Oper) : List Nat := (o.after.toList.filter fun e => Region.binds .any e).map (·.on)
def toC (P : Program) (N : Nat) : Code → C
  | .skip => .skip
  | .region _ ops false => .reg (ops.toList.map (toO P N ops))
  | .region _ ops true => .drw (ops.toList.map (toO P N ops)) (ops.toList.map depsOf)
  | .seq a b => .seq (toC P N a) (toC P N b)
  | .cond x a b => .cond x (toC P N a) (toC P N b)
  | .block id c => .block id (toC P N c)
  | .loop c => .loop (toC P N c)
  | .exit id => .exit id
  | .ret => .ret
  | _ => .bad

inductive X where
  | nrm | ret
  | ex (id : Nat)
def X.to : X → Exit
  | .nrm => .normal
  | .ret => .ret
  | .ex i => .exit i

/-- Memory seen otherwise: in another order, with less, sealed. -/
def VS (H : List Own) (S : Seal) (H' : List Own) (S' : Seal) : Prop := ∀ w, HOK H S w → HOK H' S' w ∧ Step H S w H' S' w
theorem VS.refl (H : List Own) (S : Seal) : VS H S H S := fun w h => ⟨h, Step.refl _ _ _⟩
theorem VS.trans {H H1 H2 : List Own} {S S1 S2 : Seal} (h : VS H S H1 S1) (k : VS H1 S1 H2 S2) : VS H S H2 S2 :=
  fun w hw => ⟨(k w (h w hw).1).1, (h w hw).2.trans (k w (h w hw).1).2⟩
theorem VS.perm {H H' : List Own} {S : Seal} (p : H.Perm H') : VS H S H' S := fun w h => ⟨h.perm p, by
  have := (Step.refl H S w)
  exact ⟨this.ext, fun e he => this.new e ((bs_perm p).mem_iff.2 he), this.snew, this.sold, this.spl⟩⟩
theorem VS.drop {H F : List Own} {S : Seal} : VS (H ++ F) S H S := fun w h => ⟨h.drop, (Step.refl _ _ _).drop⟩
theorem VS.sealB {e : Own} {H : List Own} {S : Seal} : VS (e :: H) S H (sealed S e.b e.cs) := fun w h => h.sealB
theorem VS.none {H : List Own} {S : Seal} : VS H S [] S := fun w h => (VS.drop (H := []) (F := H)) w h
theorem VS.tail {e : Own} {H : List Own} {S : Seal} : VS (e :: H) S H S := (VS.perm (H' := H ++ [e]) (List.perm_append_comm (l₁ := [e]))).trans VS.drop
theorem VS.cons {e : Own} {H H' : List Own} {S : Seal} (h : VS H S H' S) : VS (e :: H) S (e :: H') S := fun w hw => by
  have p : (e :: H).Perm (H ++ [e]) := List.perm_append_comm (l₁ := [e])
  have p' : (e :: H').Perm (H' ++ [e]) := List.perm_append_comm (l₁ := [e])
  have hw2 := hw.perm p
  obtain ⟨a, b⟩ := h w hw2.drop
  obtain ⟨c, d⟩ := hw2.frame a b
  have d2 := d.perm p.symm
  exact ⟨c.perm p'.symm, ⟨d2.ext, fun f hf => d2.new f ((bs_perm p').mem_iff.1 hf), d2.snew, d2.sold, d2.spl⟩⟩

abbrev Qst := X → Pst
def W (P : Program) (N : Nat) (c : C) (σ : Sl) (H : List Own) (S : Seal) (Q : Qst) : Prop :=
  ∀ (code : Code), toC P N code = c → ∀ (ts : Array Value) (w : World) (R : Exit → Act → World → Prop), SlOK σ ts → ts.size = N → HOK H S w →
    (∀ x σ' H' S' ts' w', Q x σ' H' S' → SlOK σ' ts' → ts'.size = N → HOK H' S' w' → Step H S w H' S' w' → R x.to ⟨ts', []⟩ w') → code.wp P R ⟨ts, []⟩ w

section
variable {P : Program} {N : Nat} {σ : Sl} {H : List Own} {S : Seal} {Q : Qst} {a b c : C}

theorem w_vs {H' : List Own} {S' : Seal} (v : VS H S H' S') (h : W P N c σ H' S' Q) : W P N c σ H S Q := by
  intro code hc ts w R hσ hN hH hR
  obtain ⟨h1, h2⟩ := v w hH
  exact h code hc ts w R hσ hN h1 fun x σ' H2 S2 ts' w' q a1 a2 a3 st => hR x σ' H2 S2 ts' w' q a1 a2 a3 (h2.trans st)
theorem w_keep (L : List Nat) (h : W P N c (keep L σ) H S Q) : W P N c σ H S Q :=
  fun code hc ts w R hσ hN hH hR => h code hc ts w R (hσ.keep L) hN hH hR
theorem w_slots {σ' : Sl} (hs : ∀ t v, gt σ' t = some v → gt σ t = some v) (h : W P N c σ' H S Q) : W P N c σ H S Q :=
  fun code hc ts w R hσ hN hH hR => h code hc ts w R (fun t v g => hσ t v (hs t v g)) hN hH hR
theorem w_mono {Q' : Qst} (h : W P N c σ H S Q) (hq : ∀ x σ' H' S', Q x σ' H' S' → Q' x σ' H' S') : W P N c σ H S Q' :=
  fun code hc ts w R hσ hN hH hR => h code hc ts w R hσ hN hH fun x σ' H2 S2 ts' w' q => hR x σ' H2 S2 ts' w' (hq _ _ _ _ q)

theorem w_skip (h : Q .nrm σ H S) : W P N .skip σ H S Q := by
  intro code hc ts w R hσ hN hH hR
  cases code <;> (try simp only [toC] at hc) <;> (try cases hc; done)
  case skip => exact wp_skip (hR .nrm _ _ _ _ _ h hσ hN hH (Step.refl _ _ _))
  case region id ops dr => cases dr <;> simp [toC] at hc
theorem w_ret (h : Q .ret σ H S) : W P N .ret σ H S Q := by
  intro code hc ts w R hσ hN hH hR
  cases code <;> (try simp only [toC] at hc) <;> (try cases hc; done)
  case ret => exact wp_ret (hR .ret _ _ _ _ _ h hσ hN hH (Step.refl _ _ _))
  case region id ops dr => cases dr <;> simp [toC] at hc
theorem w_exit {i : Nat} (h : Q (.ex i) σ H S) : W P N (.exit i) σ H S Q := by
  intro code hc ts w R hσ hN hH hR
  cases code <;> (try simp only [toC] at hc) <;> (try cases hc; done)
  case exit j => cases hc; exact wp_exit (hR (.ex i) _ _ _ _ _ h hσ hN hH (Step.refl _ _ _))
  case region id ops dr => cases dr <;> simp [toC] at hc

def thn (P : Program) (N : Nat) (b : C) (Q : Qst) : Qst
  | .nrm => fun σ H S => W P N b σ H S Q
  | x => Q x
theorem w_seq (h : W P N a σ H S (thn P N b Q)) : W P N (.seq a b) σ H S Q := by
  intro code hc ts w R hσ hN hH hR
  cases code <;> (try simp only [toC] at hc) <;> (try cases hc; done)
  case seq x y =>
    injection hc with h1 h2
    refine wp_seq (h x h1 ts w _ hσ hN hH ?_)
    intro x σ' H' S' ts' w' q a1 a2 a3 st
    cases x with
    | nrm => exact q y h2 ts' w' R a1 a2 a3 fun x2 σ2 H2 S2 ts2 w2 q2 b1 b2 b3 st2 => hR x2 σ2 H2 S2 ts2 w2 q2 b1 b2 b3 (st.trans st2)
    | ret => exact hR .ret σ' H' S' ts' w' q a1 a2 a3 st
    | ex i => exact hR (.ex i) σ' H' S' ts' w' q a1 a2 a3 st
  case region id ops dr => cases dr <;> simp [toC] at hc
theorem w_cond {x : Operand} {t : Bool} (hx : ev σ x = some (.bool t)) (h1 : t = true → W P N a σ H S Q) (h2 : t = false → W P N b σ H S Q) : W P N (.cond x a b) σ H S Q := by
  intro code hc ts w R hσ hN hH hR
  cases code <;> (try simp only [toC] at hc) <;> (try cases hc; done)
  case cond y c d =>
    injection hc with e1 e2 e3
    subst e1
    refine wp_cond_split (ev_ok hσ hx) (fun e => h1 e c e2 ts w R hσ hN hH hR) (fun e => h2 e d e3 ts w R hσ hN hH hR)
  case region id ops dr => cases dr <;> simp [toC] at hc
def blk (id : Nat) (Q : Qst) : Qst
  | .ex i => if i = id then Q .nrm else Q (.ex i)
  | x => Q x
theorem w_block {id : Nat} (h : W P N c σ H S (blk id Q)) : W P N (.block id c) σ H S Q := by
  intro code hc ts w R hσ hN hH hR
  cases code <;> (try simp only [toC] at hc) <;> (try cases hc; done)
  case block i d =>
    injection hc with e1 e2
    subst e1
    refine wp_block (h d e2 ts w _ hσ hN hH ?_)
    intro x σ' H' S' ts' w' q a1 a2 a3 st
    cases x with
    | nrm => exact hR .nrm σ' H' S' ts' w' q a1 a2 a3 st
    | ret => exact hR .ret σ' H' S' ts' w' q a1 a2 a3 st
    | ex j =>
      simp only [blk] at q
      show (if j = i then R .normal ⟨ts', []⟩ w' else R (.exit j) ⟨ts', []⟩ w')
      split
      · rename_i e; rw [if_pos e] at q; exact hR .nrm σ' H' S' ts' w' q a1 a2 a3 st
      · rename_i e; rw [if_neg e] at q; exact hR (.ex j) σ' H' S' ts' w' q a1 a2 a3 st
  case region id ops dr => cases dr <;> simp [toC] at hc

theorem wp_loop_n {P : Program} {c : Code} {Q : Exit → Act → World → Prop} {a : Act} {w : World} (J : Nat → Act → World → Prop) (n : Nat) (h₀ : J n a w)
    (round : ∀ n a w, J n a w → c.wp P (Exit.then (fun a' w' => ∃ m, m < n ∧ J m a' w') Q) a w) : (Code.loop c).wp P Q a w := by
  intro b k cs
  have key : ∀ n a w, J n a w →
      ∃ e a' w', Q e a' w' ∧ Arrives P (lone (b.at a (.code c :: .inLoop c :: k)) cs w) b k cs e a' w' := by
    intro n
    induction n using Nat.strongRecOn with
    | _ n ih =>
      intro a w hI
      obtain ⟨e, a₁, w₁, hq, harr⟩ := round n a w hI b (.inLoop c :: k) cs
      cases e with
      | normal =>
        obtain ⟨m, hlt, hI₁⟩ := hq
        obtain ⟨e₂, a₂, w₂, hq₂, harr₂⟩ := ih m hlt a₁ w₁ hI₁
        exact ⟨e₂, a₂, w₂, hq₂, .of_steps (Steps.trans harr (.one step_inLoop)) harr₂⟩
      | exit id => exact ⟨_, a₁, w₁, hq, .pass (x := .inLoop c) rfl (fun _ _ => .inl (by simp)) harr⟩
      | goto l => exact ⟨_, a₁, w₁, hq, .pass (x := .inLoop c) rfl (fun _ _ => .inl (by simp)) harr⟩
      | ret => exact ⟨_, a₁, w₁, hq, .pass (x := .inLoop c) rfl (fun _ _ => .inl (by simp)) harr⟩
      | panic ch => exact ⟨_, a₁, w₁, hq, .pass (x := .inLoop c) rfl (fun _ _ => .inl (by simp)) harr⟩
      | outgrown => exact ⟨_, a₁, w₁, hq, .pass (x := .inLoop c) rfl (fun _ _ => .inl (by simp)) harr⟩
  obtain ⟨e, a', w', hq, harr⟩ := key _ a w h₀
  exact ⟨e, a', w', hq, .of_steps (.one step_loop) harr⟩

/-- A loop, by what holds at its head, with a number that goes down. -/
def lpq (I : Nat → Pst) (n : Nat) (Q : Qst) : Qst
  | .nrm => fun σ H S => ∃ m, m < n ∧ ∃ σ1 H1 S1, (∀ t v, gt σ1 t = some v → gt σ t = some v) ∧ VS H S H1 S1 ∧ I m σ1 H1 S1
  | x => Q x
theorem w_loop (I : Nat → Pst) (n : Nat) (h0 : I n σ H S) (h : ∀ n σ H S, I n σ H S → W P N c σ H S (lpq I n Q)) : W P N (.loop c) σ H S Q := by
  intro code hc ts w R hσ hN hH hR
  cases code <;> (try simp only [toC] at hc) <;> (try cases hc; done)
  case loop d =>
    injection hc with e2
    refine wp_loop_n (fun n a w1 => ∃ ts1 σ1 H1 S1, a = ⟨ts1, []⟩ ∧ I n σ1 H1 S1 ∧ SlOK σ1 ts1 ∧ ts1.size = N ∧ HOK H1 S1 w1 ∧ Step H S w H1 S1 w1) n ⟨ts, σ, H, S, rfl, h0, hσ, hN, hH, Step.refl _ _ _⟩ ?_
    rintro n a w1 ⟨ts1, σ1, H1, S1, rfl, hi, b1, b2, b3, b4⟩
    refine h n σ1 H1 S1 hi d e2 ts1 w1 _ b1 b2 b3 ?_
    intro x σ' H' S' ts' w' q a1 a2 a3 st
    cases x with
    | nrm =>
      obtain ⟨m, hm, σ2, H2, S2, g1, g2, g3⟩ := q
      obtain ⟨v1, v2⟩ := g2 w' a3
      exact ⟨m, hm, ts', σ2, H2, S2, rfl, g3, fun t v g => a1 t v (g1 t v g), a2, v1, b4.trans (st.trans v2)⟩
    | ret => exact hR .ret σ' H' S' ts' w' q a1 a2 a3 (b4.trans st)
    | ex i => exact hR (.ex i) σ' H' S' ts' w' q a1 a2 a3 (b4.trans st)
  case region id ops dr => cases dr <;> simp [toC] at hc

/-- A loop, round by round. -/
def WL (P : Program) (N : Nat) (c : C) (n : Nat) (σ : Sl) (H : List Own) (S : Seal) (Q : Qst) : Prop :=
  ∀ (code : Code), toC P N code = c → ∀ (ts : Array Value) (w : World) (R : Exit → Act → World → Prop), SlOK σ ts → ts.size = N → HOK H S w →
    (∀ x σ' H' S' ts' w', Q x σ' H' S' → SlOK σ' ts' → ts'.size = N → HOK H' S' w' → Step H S w H' S' w' → R x.to ⟨ts', []⟩ w') → Code.rounds P code R n ⟨ts, []⟩ w
def lun (P : Program) (N : Nat) (c : C) (n : Nat) (Q : Qst) : Qst
  | .nrm => fun σ H S => WL P N c n σ H S Q
  | x => Q x
theorem wl_step {n : Nat} (h : W P N c σ H S (lun P N c n Q)) : WL P N c (n + 1) σ H S Q := by
  intro code hc ts w R hσ hN hH hR
  rw [rounds_succ]
  refine h code hc ts w _ hσ hN hH ?_
  intro x σ' H' S' ts' w' q a1 a2 a3 st
  cases x with
  | nrm => exact q code hc ts' w' R a1 a2 a3 fun x2 σ2 H2 S2 ts2 w2 q2 b1 b2 b3 st2 => hR x2 σ2 H2 S2 ts2 w2 q2 b1 b2 b3 (st.trans st2)
  | ret => exact hR .ret σ' H' S' ts' w' q a1 a2 a3 st
  | ex i => exact hR (.ex i) σ' H' S' ts' w' q a1 a2 a3 st
theorem w_lun (n : Nat) (h : WL P N c n σ H S Q) : W P N (.loop c) σ H S Q := by
  intro code hc ts w R hσ hN hH hR
  cases code <;> (try simp only [toC] at hc) <;> (try cases hc; done)
  case loop d =>
    injection hc with e2
    exact wp_loop_rounds n (h d e2 ts w R hσ hN hH hR)
  case region id ops dr => cases dr <;> simp [toC] at hc
theorem w_reg {ops : List O} (h : ∀ all, T P N all ops σ H S (Q .nrm)) : W P N (.reg ops) σ H S Q := by
  intro code hc ts w R hσ hN hH hR
  cases code <;> (try simp only [toC] at hc) <;> (try cases hc; done)
  case region id l dr =>
    cases dr with
    | true => simp [toC] at hc
    | false =>
      simp only [toC] at hc
      injection hc with e
      refine wp_region_list (h l l.toList e ts w R hσ hN hH ?_)
      intro σ' H' S' ts' w' q a1 a2 a3 st
      exact hR .nrm σ' H' S' ts' w' q a1 a2 a3 st
end

/-! ### a whole function -/
inductive RV where
  | t (n : Nat)
  | c1 (s : Nat)
  | cn (n s : Nat)
  | bad
def toRV (P : Program) : ResultVar → RV
  | .tmp t => .t t
  | .cell a t => match varT P t with
    | some none => .c1 a
    | some (some n) => .cn n a
    | none => .bad
/-- A result, read. -/
def RR (H : List Own) (S : Seal) (σ : Sl) : RV → Value → Prop
  | .t n, v => gt σ n = some v
  | .c1 s, v => ∃ b o, gt σ s = some (.pointer (some ⟨b, o, none⟩)) ∧ R1 H S b o v
  | .cn n s, v => ∃ b o vs, gt σ s = some (.pointer (some ⟨b, o, none⟩)) ∧ Rn H S b o n vs ∧ v = .agg vs.toArray
  | .bad, _ => False
def RRs (H : List Own) (S : Seal) (σ : Sl) : List RV → List Value → Prop
  | [], [] => True
  | r :: l, v :: vs => RR H S σ r v ∧ RRs H S σ l vs
  | _, _ => False
def one : List Value → Value
  | [v] => v
  | vs => .tuple vs.toArray

theorem rr_ok {P : Program} {H : List Own} {S : Seal} {σ : Sl} {ts : Array Value} {w : World} (hσ : SlOK σ ts) (hH : HOK H S w) {r : ResultVar} {v : Value} (h : RR H S σ (toRV P r) v) :
    (match r with | .tmp t => (pure (ts.getD t undef) : Sem Value) | .cell a t => do loadVar t (← asAddr (ts.getD a undef))).run P w = .ok v w := by
  cases r with
  | tmp t =>
    simp only [toRV, RR] at h
    have := hσ _ _ h
    simp [Array.getD_eq_getD_getElem?, this]
  | cell a t =>
    simp only [toRV] at h
    split at h
    · rename_i hv
      obtain ⟨b, o, hs, hr⟩ := h
      have h1 := hσ _ _ hs
      simp [Array.getD_eq_getD_getElem?, h1, asAddr, run_loadVar_one hv (hr.ok hH)]
    · rename_i n hv
      obtain ⟨b, o, vs, hs, hr, rfl⟩ := h
      have h1 := hσ _ _ hs
      obtain ⟨h2, h3⟩ := hr.ok hH
      simp [Array.getD_eq_getD_getElem?, h1, asAddr, run_loadVar_many hv h2 h3]
    · exact h.elim

theorem results_ok {P : Program} {H : List Own} {S : Seal} {σ : Sl} {ts : Array Value} {w : World} (hσ : SlOK σ ts) (hH : HOK H S w) {fn : Func} {vs : List Value} (h : RRs H S σ (fn.results.toList.map (toRV P)) vs) :
    (results fn ts).run P w = .ok (one vs) w := by
  have key : ∀ (l : List ResultVar) (vs : List Value) (acc : Array Value), RRs H S σ (l.map (toRV P)) vs →
      (l.foldlM (fun (bs : Array Value) r => (bs.push <$> (match r with | .tmp t => (pure (ts.getD t undef) : Sem Value) | .cell a t => do loadVar t (← asAddr (ts.getD a undef))) : Sem (Array Value))) acc).run P w = .ok (acc ++ vs.toArray) w := by
    intro l
    induction l with
    | nil => intro vs acc h; cases vs with
      | nil => simp [List.foldlM]
      | cons v r => exact h.elim
    | cons r l ih =>
      intro vs acc h
      cases vs with
      | nil => exact h.elim
      | cons v vs' =>
        have := rr_ok (P := P) hσ hH h.1
        simp only [List.foldlM_cons, Sem.run_bind, Sem.run_map, this, Result.andThen_ok, ih vs' _ h.2]
        congr 1
        apply Array.ext'
        simp
  have k := key fn.results.toList vs #[] h
  unfold results
  rw [Sem.run_bind, Array.mapM_eq_foldlM, ← Array.foldlM_toList]
  have k' := k
  simp only [List.nil_append, Array.empty_append] at k'
  refine (congrArg (fun r => Result.andThen r _) k').trans ?_
  simp only [Result.andThen_ok, Sem.run_pure]
  congr 1
  cases vs with
  | nil => simp [one]
  | cons v r =>
    cases r with
    | nil => simp [one]
    | cons u r => simp [one]

def argσ : Nat → List Value → Sl
  | _, [] => []
  | i, v :: r => (i, v) :: argσ (i + 1) r
theorem argσ_get : ∀ {l : List Value} {i t : Nat} {v : Value}, gt (argσ i l) t = some v → i ≤ t ∧ l[t - i]? = some v
  | [], i, t, v, h => by cases h
  | u :: r, i, t, v, h => by
    simp only [argσ, gt] at h
    split at h
    · rename_i e; subst e; obtain rfl := Option.some.inj h; simp
    · rename_i e
      obtain ⟨h1, h2⟩ := argσ_get h
      refine ⟨by omega, ?_⟩
      rw [show t - i = (t - (i + 1)) + 1 from by omega]
      simpa using h2

/-- At a function's end. -/
def fin (rs : List RV) (Q : Value → List Own → Seal → Prop) : Qst
  | .ex _ => fun _ _ _ => False
  | _ => fun σ H S => ∃ vs H1 S1, RRs H S σ rs vs ∧ VS H S H1 S1 ∧ Q (one vs) H1 S1

theorem cal_of {P : Program} {f : FuncId} {fn : Func} {code : Code} {N : Nat} {c : C} {rs : List RV} {args : List Value} {H : List Own} {S : Seal} {Q : Value → List Own → Seal → Prop}
    (hf : P.funcs[f]? = some fn) (hb : fn.body = some code) (hN : fn.ntmps = N) (hc : toC P N code = c) (hr : fn.results.toList.map (toRV P) = rs) (hl : args.length ≤ N)
    (h : W P N c (argσ 0 args) H S (fin rs Q)) : Cal P f args H S Q := by
  intro w hH
  refine calls_of_wp hf hb ?_
  have hsz : (args.toArray ++ Array.replicate (fn.ntmps - args.toArray.size) undef).size = N := by simp [hN]; omega
  refine h code hc _ w _ ?_ hsz hH ?_
  · intro t v g
    obtain ⟨h1, h2⟩ := argσ_get g
    simp only [Nat.sub_zero] at h2
    have hlt : t < args.length := (List.getElem?_eq_some_iff.1 h2).1
    rw [Array.getElem?_append_left (by simpa using hlt)]
    simpa using h2
  · intro x σ' H' S' ts' w' q a1 a2 a3 st
    cases x with
    | ex i => exact q.elim
    | nrm =>
      obtain ⟨vs, H1, S1, q1, q2, q3⟩ := q
      obtain ⟨v1, v2⟩ := q2 w' a3
      exact ⟨rfl, one vs, results_ok a1 a3 (by rw [hr]; exact q1), one vs, H1, S1, rfl, q3, v1, st.trans v2⟩
    | ret =>
      obtain ⟨vs, H1, S1, q1, q2, q3⟩ := q
      obtain ⟨v1, v2⟩ := q2 w' a3
      exact ⟨rfl, one vs, results_ok a1 a3 (by rw [hr]; exact q1), one vs, H1, S1, rfl, q3, v1, st.trans v2⟩
end Go.Proofs.YtobjaddicodiaaaDoorE
end

section
/- '==' of structs and arrays whose cells are numbers and bools: one Bool. -/
namespace Go.Proofs.YtobjaddicodiaaaDoorE
open Go Go.RowKit
set_option linter.unusedVariables false
set_option linter.unusedSimpArgs false

def prt (P : Program) (t : TypeId) (xs : List Value) (o : Nat) : Option Value := match varT P t with
  | some none => xs[o]?
  | some (some n) => match subl xs o n with
    | some l => some (.agg l.toArray)
    | none => none
  | none => none
theorem prt_run {P : Program} {t : TypeId} {xs : Array Value} {o : Nat} {v : Value} (h : prt P t xs.toList o = some v) (w : World) : (part t xs o).run P w = .ok v w := by
  unfold prt at h
  split at h
  · rename_i hv; exact run_part_one hv h
  · rename_i n hv
    split at h
    · rename_i l hl; obtain rfl := Option.some.inj h; exact run_part_many hv hl
    · cases h
  · cases h
def eqP (f : TypeId → Value → Value → Option Bool) (P : Program) (xs ys : List Value) : List (TypeId × Nat) → Option Bool
  | [] => some true
  | [(t, o)] => match prt P t xs o, prt P t ys o with
    | some a, some b => f t a b
    | _, _ => none
  | (t, o) :: p :: r => match prt P t xs o, prt P t ys o with
    | some a, some b => match f t a b, eqP f P xs ys (p :: r) with
      | some x, some y => some (x && y)
      | _, _ => none
    | _, _ => none
def eqF (P : Program) : Nat → TypeId → Value → Value → Option Bool
  | 0, _, _, _ => none
  | d + 1, t, a, b => match P.underlying t with
    | some .bool => match a, b with
      | .bool x, .bool y => some (x == y)
      | _, _ => none
    | some (.int _) => match a, b with
      | .int k x, .int k' y => if k = k' then some (x == y) else none
      | _, _ => none
    | some (.struct fs) => match a, b with
      | .agg xs, .agg ys => if P.stoodInHeld t then none else if fs.toList.all (fun f => !(f.name == "_")) then eqP (eqF P d) P xs.toList ys.toList (fs.toList.map fun f => (f.type, f.offset)) else none
      | _, _ => none
    | some (.array n e) => match a, b, sizT P e with
      | .agg xs, .agg ys, some s => eqP (eqF P d) P xs.toList ys.toList ((List.range n).map fun i => (e, i * s))
      | _, _, _ => none
    | _ => none

section
variable {P : Program}
theorem eqP_cons {f : TypeId → Value → Value → Option Bool} {xs ys : List Value} {t : TypeId} {o : Nat} {r : List (TypeId × Nat)} {b : Bool} (h : eqP f P xs ys ((t, o) :: r) = some b) :
    ∃ x y c, prt P t xs o = some x ∧ prt P t ys o = some y ∧ f t x y = some c ∧ ∃ c', eqP f P xs ys r = some c' ∧ b = (c && c') := by
  cases r with
  | nil =>
    simp only [eqP] at h
    split at h
    · rename_i x y h1 h2; exact ⟨x, y, b, h1, h2, h, true, rfl, by simp⟩
    · cases h
  | cons p r =>
    simp only [eqP] at h
    split at h
    · rename_i x y h1 h2
      split at h
      · rename_i c c' h3 h4; exact ⟨x, y, c, h1, h2, h3, c', h4, (Option.some.inj h).symm⟩
      · cases h
    · cases h
theorem eqFields_run {d m : Nat} (ih : ∀ t a b r, eqF P m t a b = some r → ∀ w, (Op.equalIn d t a b).run P w = .ok r w) {xs ys : Array Value} : ∀ (fs : List Field), fs.all (fun f => !(f.name == "_")) = true → ∀ {r : Bool}, eqP (eqF P m) P xs.toList ys.toList (fs.map fun f => (f.type, f.offset)) = some r → ∀ w, (Op.eqFields d xs ys fs).run P w = .ok r w
  | [], _, r, h, w => by simp only [List.map_nil, eqP, Option.some.injEq] at h; subst h; simp [Op.eqFields]
  | f :: fs, hn, r, h, w => by
    simp only [List.all_cons, Bool.and_eq_true, Bool.not_eq_true'] at hn
    have hn' : f.name ≠ "_" := by simpa using hn.1
    rw [List.map_cons] at h
    obtain ⟨x, y, c, h1, h2, h3, c', h4, rfl⟩ := eqP_cons h
    have h5 := eqFields_run ih fs hn.2 h4 w
    rw [Op.eqFields]
    simp only [if_pos hn', Sem.run_bind, prt_run h1, prt_run h2, ih _ _ _ _ h3, Result.andThen_ok]
    cases c
    · simp
    · simpa using h5
theorem eqItems_run {d m : Nat} (ih : ∀ t a b r, eqF P m t a b = some r → ∀ w, (Op.equalIn d t a b).run P w = .ok r w) {e : TypeId} {s : Nat} {xs ys : Array Value} : ∀ (is : List Nat), ∀ {r : Bool}, eqP (eqF P m) P xs.toList ys.toList (is.map fun i => (e, i * s)) = some r → ∀ w, (Op.eqItems d e s xs ys is).run P w = .ok r w
  | [], r, h, w => by simp only [List.map_nil, eqP, Option.some.injEq] at h; subst h; simp [Op.eqItems]
  | i :: is, r, h, w => by
    rw [List.map_cons] at h
    obtain ⟨x, y, c, h1, h2, h3, c', h4, rfl⟩ := eqP_cons h
    have h5 := eqItems_run ih is h4 w
    rw [Op.eqItems]
    simp only [Sem.run_bind, prt_run h1, prt_run h2, ih _ _ _ _ h3, Result.andThen_ok]
    cases c
    · simp
    · simpa using h5
theorem eqF_run : ∀ (m d : Nat) (t : TypeId) (a b : Value) (r : Bool), eqF P m t a b = some r → ∀ w, (Op.equalIn (d + m) t a b).run P w = .ok r w
  | 0, d, t, a, b, r, h, w => by simp [eqF] at h
  | m + 1, d, t, a, b, r, h, w => by
    have ih := fun t a b r => eqF_run m d t a b r
    unfold eqF at h
    split at h
    · rename_i hu
      split at h
      · obtain rfl := Option.some.inj h; exact run_equalIn_bool' w (d + m) t _ _ hu
      · cases h
    · rename_i q hu
      split at h
      · split at h
        · rename_i hk; subst hk; obtain rfl := Option.some.inj h; exact run_equalIn_int w (d + m) t _ _ _ _ hu
        · cases h
      · cases h
    · rename_i fs hu
      split at h
      · split at h
        · cases h
        · rename_i hs
          split at h
          · rename_i ha
            have hf : P.fieldsOf t = fs := by simp [Program.fieldsOf, hu]
            show (Op.equalIn (d + m + 1) t _ _).run P w = _
            rw [run_equalIn_struct (P := P) w (d + m) t _ _ (by rw [hf]; exact hu) (by simpa using hs), hf]
            exact eqFields_run ih _ ha h w
          · cases h
      · cases h
    · rename_i n e hu
      split at h
      · rename_i xs ys s hsz
        unfold sizT at hsz
        cases hi : P.info? e with
        | none => rw [hi] at hsz; cases hsz
        | some i =>
          show (Op.equalIn (d + m + 1) t _ _).run P w = _
          rw [run_equalIn_array (P := P) w (d + m) _ _ hu hi]
          have hs : P.cellsOf e = s := by rw [hi] at hsz; obtain rfl := Option.some.inj hsz; simp [Program.cellsOf, hi]
          rw [hs]
          exact eqItems_run ih _ h w
      · cases h
    · cases h

def isC : Operand → Bool
  | .const _ => true
  | _ => false
def eqV (P : Program) (t : TypeId) (x y : Operand) (a b : Value) : Option Bool := match a, b with
  | .agg xs, .agg ys => if P.eqGuardType P.depth t then none else eqF P 16 t a b
  | .iface _ _, .nilIface => match P.underlying t with
    | some (.interface _) => some false
    | _ => none
  | .nilIface, .nilIface => match P.underlying t with
    | some (.interface _) => if isC y then some true else none
    | _ => none
  | _, _ => none
theorem run_eqGuard_held (w : World) (op : BinOp) (t : TypeId) (x y : Operand) (u : TypeId) (v : Value) : (eqGuard op t x y (.iface u v) .nilIface).run P w = .ok () w := by
  cases op <;> rfl
theorem run_eqGuard_nil (w : World) (op : BinOp) (t : TypeId) (x y : Operand) (h : isC y = true) : (eqGuard op t x y .nilIface .nilIface).run P w = .ok () w := by
  cases y <;> simp [isC] at h
  cases op <;> simp [eqGuard]
theorem under_at {t : TypeId} {ms : Array (String × TypeId)} (h : P.underlying t = some (.interface ms)) : P.underlying t = some (.interface (P.methodsAt t)) := by
  rw [h]
  simp [Program.methodsAt, h]
theorem eqV_run {t : TypeId} {a b : Value} {r : Bool} {x y : Operand} (h : eqV P t x y a b = some r) (neg : Bool) (ts : Act) (dst : Option Tmp) (yt type : TypeId) (pos : String) (after : Array Edge) (guard : Option (Nat × Bool)) (hx : Act.eval ts x = a) (hy : Act.eval ts y = b) (w : World) :
    (execOp (Act.eval ts) ⟨dst, .binOp (if neg then .neq else .eql) t x y yt, type, pos, after, guard⟩).run P w = .ok (.value (.bool (r != neg))) w := by
  unfold eqV at h
  split at h
  · rename_i xs ys
    split at h
    · cases h
    · rename_i hg
      have h2 := eqF_run 16 (10000 - 16) t _ _ r h w
      have h3 : (Op.equalIn 10000 t (.agg xs) (.agg ys)).run P w = .ok r w := h2
      cases neg
      · simp [execOp, hx, hy, run_eqGuard_agg w .eql t x y xs ys (by simpa using hg), run_eql_struct, h3]
      · simp [execOp, hx, hy, run_eqGuard_agg w .neq t x y xs ys (by simpa using hg), run_neq_struct, h3]
  · rename_i u v
    split at h
    · rename_i ms hu
      obtain rfl := Option.some.inj h
      cases neg
      · simp [execOp, hx, hy, run_eqGuard_held w .eql t x y u v, run_eql_held_nil w t u v (under_at hu)]
      · simp [execOp, hx, hy, run_eqGuard_held w .neq t x y u v, run_neq_held_nil w t u v (under_at hu)]
    · cases h
  · split at h
    · rename_i ms hu
      split at h
      · rename_i hc
        obtain rfl := Option.some.inj h
        cases neg
        · simp [execOp, hx, hy, run_eqGuard_nil w .eql t x y hc, run_eql_nil_nil w t (under_at hu)]
        · simp [execOp, hx, hy, run_eqGuard_nil w .neq t x y hc, run_neq_nil_nil w t (under_at hu)]
      · cases h
    · cases h
  · cases h
end
/-- Two held values compared, by what is known of plain blocks. -/
def EqP (P : Program) (S : Seal) (t : TypeId) (a b : Value) (r : Bool) : Prop := (∃ u v u' v', a = .iface u v ∧ b = .iface u' v') ∧
  ∀ w : World, (∀ k, S.pl k → ∃ (arr : Array Value) (T : TypeId), w.heap[k]? = some (.cells arr T (0, 0))) → (Op.equalIn 10000 t a b).run P w = .ok r w
theorem eqP_run {P : Program} {S : Seal} {t : TypeId} {a b : Value} {r : Bool} {x y : Operand} (h : EqP P S t a b r) (neg : Bool) (ts : Act) (dst : Option Tmp) (yt type : TypeId) (pos : String) (after : Array Edge) (guard : Option (Nat × Bool)) (hx : Act.eval ts x = a) (hy : Act.eval ts y = b) (w : World) (hp : ∀ k, S.pl k → ∃ (arr : Array Value) (T : TypeId), w.heap[k]? = some (.cells arr T (0, 0))) :
    (execOp (Act.eval ts) ⟨dst, .binOp (if neg then .neq else .eql) t x y yt, type, pos, after, guard⟩).run P w = .ok (.value (.bool (r != neg))) w := by
  obtain ⟨⟨u, v, u', v', rfl, rfl⟩, h⟩ := h
  have h1 := h w hp
  have hg : ∀ op, (eqGuard op t x y (.iface u v) (.iface u' v')).run P w = .ok () w := fun op => by cases op <;> rfl
  have h2 : (binOp .eql t (.iface u v) (.iface u' v')).run P w = .ok (.bool r) w := by
    simp only [binOp]
    simp [Op.equal, Op.maxDepth, h1]
  have h3 : (binOp .neq t (.iface u v) (.iface u' v')).run P w = .ok (.bool !r) w := by
    simp only [binOp]
    simp [Op.equal, Op.maxDepth, h1]
  cases neg
  · simp [execOp, hx, hy, hg .eql, h2]
  · simp [execOp, hx, hy, hg .neq, h3]
theorem bnf (r : Bool) : (r != false) = r := by cases r <;> rfl
theorem bnk {r k neg v : Bool} (h : r = k) (h2 : (k != neg) = v) : (r != neg) = v := by subst h; exact h2
theorem toK_eqt {P : Program} {op : Op} {neg : Bool} {t : TypeId} {x y : Operand} (h : toK P op = .eqt neg t x y) : ∃ yt, op = .binOp (if neg then .neq else .eql) t x y yt := by
  cases op
  case slice t x lo hi mx => cases mx <;> simp only [toK] at h <;> (repeat' split at h) <;> cases h
  case binOp op t' x' y' yt =>
    simp only [toK] at h
    (repeat' split at h) <;> cases h <;> exact ⟨yt, rfl⟩
  all_goals (simp only [toK] at h; (try (repeat' split at h)) <;> cases h)
end Go.Proofs.YtobjaddicodiaaaDoorE
end

section
/- A region that draws its order: quiet operations, new blocks, calls that only compute, in whatever order; then the stores. -/
namespace Go.Proofs.YtobjaddicodiaaaDoorE
open Go Go.RowKit
set_option linter.unusedVariables false
set_option linter.unusedSimpArgs false

theorem Step.toPerm {H : List Own} {S S' : Seal} {w w' : World} {H' H2 : List Own} (h : Step H S w H' S' w') (p : H'.Perm H2) : Step H S w H2 S' w' :=
  ⟨h.ext, fun e he => h.new e ((bs_perm p).mem_iff.2 he), h.snew, h.sold, h.spl⟩
/-- What an operation yields: a value, or a new block. -/
inductive E where
  | v (x : Value)
  | a (cs : List Value) (mk : Nat → Value)

def ptrTo (b : Nat) : Value := .pointer (some ⟨b, 0, none⟩)
def slTo (n b : Nat) : Value := .slice (some ⟨b, 0, none⟩) n n

inductive DV (P : Program) (H : List Own) (S : Seal) (σ : Sl) (o : O) : E → Prop
  | quiet {v : Value} (hw : wtd σ o.g = some true) (h : qv H S σ o.k = some v) : DV P H S σ o (.v v)
  | quietH {v : Value} (hw : wtd σ o.g = some true) (hf : o.k ≠ .fail) (h : ∀ w, HOK H S w → qv H S σ o.k = some v) : DV P H S σ o (.v v)
  | skip (hw : wtd σ o.g = some false) (h : o.k ≠ .fail) : DV P H S σ o (.v undef)
  | new {z : List Value} (hw : wtd σ o.g = some true) (h : o.k = .new z) : DV P H S σ o (.a z ptrTo)
  | box {x : Operand} {v : Value} (hw : wtd σ o.g = some true) (h : o.k = .box x) (hv : ev σ x = some v) : DV P H S σ o (.a (cl v) ptrTo)
  | bsl {z cs : List Value} {n : Nat} {ps : List (Nat × Nat × Operand)} {vs : List (Nat × Nat × Value)} (hw : wtd σ o.g = some true) (h : o.k = .bsl z n ps) (hv : evp σ ps = some vs) (hl : lay z vs = some cs) : DV P H S σ o (.a cs (slTo n))
  | ld1 {x : Operand} {b k : Nat} {v : Value} (hw : wtd σ o.g = some true) (h : o.k = .ld none x) (hx : ev σ x = some (.pointer (some ⟨b, k, none⟩))) (hr : R1 H S b k v) : DV P H S σ o (.v v)
  | ldn {x : Operand} {b k n : Nat} {vs : List Value} (hw : wtd σ o.g = some true) (h : o.k = .ld (some n) x) (hx : ev σ x = some (.pointer (some ⟨b, k, none⟩))) (hr : Rn H S b k n vs) : DV P H S σ o (.v (.agg vs.toArray))
  | ldnH {x : Operand} {b k n : Nat} {vs : List Value} (hw : wtd σ o.g = some true) (h : o.k = .ld (some n) x) (hx : ev σ x = some (.pointer (some ⟨b, k, none⟩))) (hr : ∀ w, HOK H S w → Rn H S b k n vs) : DV P H S σ o (.v (.agg vs.toArray))
  | callr {f : FuncId} {xs : List Operand} {vs : List Value} {v : Value} {A F0 : List Own} (hw : wtd σ o.g = some true) (h : o.k = .call f xs) (hv : evs σ xs = some vs) (hp : H.Perm (A ++ F0)) (hc : Cal P f vs A S fun v' H' S' => v' = v ∧ H' = A ∧ S' = S) : DV P H S σ o (.v v)
  | clor {x : Operand} {f : FuncId} {caps : Array Value} {xs : List Operand} {vs : List Value} {v : Value} {A F0 : List Own} (hw : wtd σ o.g = some true) (h : o.k = .clo x xs) (hf : ev σ x = some (.func (.func f) #[] caps)) (hok : okF P f = true) (hv : evs σ xs = some vs) (hp : H.Perm (A ++ F0)) (hc : Cal P f (vs ++ caps.toList) A S fun v' H' S' => v' = v ∧ H' = A ∧ S' = S) : DV P H S σ o (.v v)
  | eqt {neg : Bool} {t : TypeId} {x y : Operand} {a b : Value} {r v : Bool} (hw : wtd σ o.g = some true) (h : o.k = .eqt neg t x y) (hx : ev σ x = some a) (hy : ev σ y = some b) (hr : eqV P t x y a b = some r) (hv : (r != neg) = v) : DV P H S σ o (.v (.bool v))
  | eqp {neg : Bool} {t : TypeId} {x y : Operand} {a b : Value} {r v : Bool} (hw : wtd σ o.g = some true) (h : o.k = .eqt neg t x y) (hx : ev σ x = some a) (hy : ev σ y = some b) (hr : EqP P S t a b r) (hv : (r != neg) = v) : DV P H S σ o (.v (.bool v))
  | call {f : FuncId} {xs : List Operand} {vs : List Value} {v : Value} (hw : wtd σ o.g = some true) (h : o.k = .call f xs) (hv : evs σ xs = some vs) (hc : Cal P f vs [] S fun v' H' S' => v' = v ∧ H' = [] ∧ S' = S) : DV P H S σ o (.v v)

/-! ### which slots an operation looks at -/
def opT : Operand → List Nat
  | .tmp t => [t]
  | _ => []
def opsT (xs : List Operand) : List Nat := xs.flatMap opT
def oopT : Option Operand → List Nat
  | none => []
  | some x => opT x
def pT (ps : List (Nat × Nat × Operand)) : List Nat := ps.flatMap fun p => opT p.2.2
def kT : K → List Nat
  | .mv x | .ld _ x | .pad _ x | .fld _ _ x | .nck x | .un _ x | .cnv _ x | .xt _ x | .lns x | .mki _ x | .tas _ _ _ x | .s2a _ x | .box x | .conv _ _ x => opT x
  | .pk c x y => opT c ++ opT x ++ opT y
  | .bld _ ps | .bsl _ _ ps => pT ps
  | .ixs _ x i | .ixa _ _ x i | .ixv _ _ _ x i => opT x ++ opT i
  | .bin _ x y | .beq _ x y | .eqt _ _ x y | .st _ x y | .app _ _ _ _ x y | .mks _ _ _ x y => opT x ++ opT y
  | .mm _ xs | .mkf _ xs | .call _ xs => opsT xs
  | .clo x xs => opT x ++ opsT xs
  | .sls _ x lo hi | .sla _ _ x lo hi => opT x ++ oopT lo ++ oopT hi
  | .lnc _ | .new _ | .fail => []
def oT (o : O) : List Nat := (match o.g with
  | some (t, _) => [t]
  | none => []) ++ kT o.k

def Agr (l : List Nat) (σ σ' : Sl) : Prop := ∀ t ∈ l, gt σ' t = gt σ t
theorem Agr.left {l m : List Nat} {σ σ' : Sl} (h : Agr (l ++ m) σ σ') : Agr l σ σ' := fun t ht => h t (by simp [ht])
theorem Agr.right {l m : List Nat} {σ σ' : Sl} (h : Agr (l ++ m) σ σ') : Agr m σ σ' := fun t ht => h t (by simp [ht])
theorem ev_agr {σ σ' : Sl} {x : Operand} (h : Agr (opT x) σ σ') : ev σ' x = ev σ x := by
  cases x with
  | tmp t => exact h t (by simp [opT])
  | _ => rfl
theorem evs_agr {σ σ' : Sl} : ∀ {xs : List Operand}, Agr (opsT xs) σ σ' → evs σ' xs = evs σ xs
  | [], _ => rfl
  | x :: r, h => by
    unfold evs
    rw [ev_agr (x := x) (fun t ht => h t (by simp [opsT]; exact Or.inl ht)), evs_agr (xs := r) (fun t ht => h t (by simp [opsT] at ht ⊢; exact Or.inr ht))]
theorem evo_agr {σ σ' : Sl} {x : Option Operand} (h : Agr (oopT x) σ σ') : evo σ' x = evo σ x := by
  cases x with
  | none => rfl
  | some x => simp only [evo]; rw [ev_agr (x := x) h]
theorem evp_agr {σ σ' : Sl} : ∀ {ps : List (Nat × Nat × Operand)}, Agr (pT ps) σ σ' → evp σ' ps = evp σ ps
  | [], _ => rfl
  | (a, b, x) :: r, h => by
    unfold evp
    rw [ev_agr (x := x) (fun t ht => h t (by simp [pT]; exact Or.inl ht)), evp_agr (ps := r) (fun t ht => h t (by simp [pT] at ht ⊢; exact Or.inr ht))]
theorem qv_agr {H : List Own} {S : Seal} {σ σ' : Sl} {k : K} (h : Agr (kT k) σ σ') : qv H S σ' k = qv H S σ k := by
  cases k <;> simp only [kT] at h
  case mv x => simp only [qv]; exact ev_agr h
  case pk c x y => simp only [qv]; rw [ev_agr h.left.left, ev_agr h.left.right, ev_agr h.right]
  case bld z ps => simp only [qv]; rw [evp_agr h]
  case ld n x => cases n <;> simp only [qv] <;> rw [ev_agr h]
  case pad k x => simp only [qv]; rw [ev_agr h]
  case fld n off x => cases n <;> simp only [qv] <;> rw [ev_agr h]
  case ixs z x i => simp only [qv]; rw [ev_agr h.left, ev_agr h.right]
  case ixa z m x i => simp only [qv]; rw [ev_agr h.left, ev_agr h.right]
  case ixv n z m x i => cases n <;> simp only [qv] <;> rw [ev_agr h.left, ev_agr h.right]
  case nck x => simp only [qv]; rw [ev_agr h]
  case bin op x y => simp only [qv]; rw [ev_agr h.left, ev_agr h.right]
  case beq neg x y => simp only [qv]; rw [ev_agr h.left, ev_agr h.right]
  case un op x => simp only [qv]; rw [ev_agr h]
  case cnv k x => simp only [qv]; rw [ev_agr h]
  case xt i x => simp only [qv]; rw [ev_agr h]
  case lns x => simp only [qv]; rw [ev_agr h]
  case lnc => rfl
  case mm m xs => simp only [qv]; rw [evs_agr h]
  case mkf f xs => simp only [qv]; rw [evs_agr h]
  case sls z x lo hi => simp only [qv]; rw [ev_agr h.left.left, evo_agr h.left.right, evo_agr h.right]
  case sla z m x lo hi => simp only [qv]; rw [ev_agr h.left.left, evo_agr h.left.right, evo_agr h.right]
  case mki t x => simp only [qv]; rw [ev_agr h]
  case tas t ok z x => simp only [qv]; rw [ev_agr h]
  case s2a n x => simp only [qv]; rw [ev_agr h]
  all_goals rfl
theorem wtd_agr {σ σ' : Sl} {o : O} (h : Agr (oT o) σ σ') : wtd σ' o.g = wtd σ o.g := by
  cases hg : o.g with
  | none => rfl
  | some p =>
    obtain ⟨t, b⟩ := p
    simp only [wtd]
    rw [h t (by simp [oT, hg])]
theorem DV.agr {P : Program} {H : List Own} {S : Seal} {σ σ' : Sl} {o : O} {e : E} (h : DV P H S σ o e) (g : Agr (oT o) σ σ') : DV P H S σ' o e := by
  have gw := wtd_agr g
  have gk : Agr (kT o.k) σ σ' := fun t ht => g t (by simp [oT, ht])
  cases h with
  | quiet hw h => exact .quiet (by rw [gw]; exact hw) (by rw [qv_agr gk]; exact h)
  | quietH hw hf h => exact .quietH (by rw [gw]; exact hw) hf (fun w hH => by rw [qv_agr gk]; exact h w hH)
  | skip hw h => exact .skip (by rw [gw]; exact hw) h
  | new hw h => exact .new (by rw [gw]; exact hw) h
  | box hw h hv => rw [h] at gk; exact .box (by rw [gw]; exact hw) h (by rw [ev_agr gk]; exact hv)
  | bsl hw h hv hl => rw [h] at gk; exact .bsl (by rw [gw]; exact hw) h (by rw [evp_agr gk]; exact hv) hl
  | ld1 hw h hx hr => rw [h] at gk; exact .ld1 (by rw [gw]; exact hw) h (by rw [ev_agr gk]; exact hx) hr
  | ldn hw h hx hr => rw [h] at gk; exact .ldn (by rw [gw]; exact hw) h (by rw [ev_agr gk]; exact hx) hr
  | ldnH hw h hx hr => rw [h] at gk; exact .ldnH (by rw [gw]; exact hw) h (by rw [ev_agr gk]; exact hx) hr
  | callr hw h hv hp hc => rw [h] at gk; exact .callr (by rw [gw]; exact hw) h (by rw [evs_agr gk]; exact hv) hp hc
  | clor hw h hf hok hv hp hc => rw [h] at gk; exact .clor (by rw [gw]; exact hw) h (by rw [ev_agr gk.left]; exact hf) hok (by rw [evs_agr gk.right]; exact hv) hp hc
  | eqt hw h hx hy hr hv => rw [h] at gk; exact .eqt (by rw [gw]; exact hw) h (by rw [ev_agr gk.left]; exact hx) (by rw [ev_agr gk.right]; exact hy) hr hv
  | eqp hw h hx hy hr hv => rw [h] at gk; exact .eqp (by rw [gw]; exact hw) h (by rw [ev_agr gk.left]; exact hx) (by rw [ev_agr gk.right]; exact hy) hr hv
  | call hw h hv hc => rw [h] at gk; exact .call (by rw [gw]; exact hw) h (by rw [evs_agr gk]; exact hv) hc

/-! ### one operation -/
section
variable {P : Program} {N : Nat} {all : Array Oper} {σ : Sl} {H : List Own} {S : Seal}

theorem toK_bsl {op : Op} {z : List Value} {n : Nat} {ps : List (Nat × Nat × Operand)} (h : toK P op = .bsl z n ps) :
    ∃ t parts e s z0, op = .buildSlice t n parts ∧ P.underlying t = some (.slice e) ∧ sizT P e = some s ∧ zerT P e = some z0 ∧ n * s ≤ 2 ^ 24 ∧ 0 < z0.length ∧ z = ((List.range (n * s)).map fun i => z0.getD (i % z0.length) undef) ∧ ps = parts.toList.map fun p => (p.1 * s, s, p.2) := by
  cases op
  case slice t x lo hi mx => cases mx <;> simp only [toK] at h <;> (repeat' split at h) <;> cases h
  case buildSlice t m parts =>
    simp only [toK] at h
    split at h
    · rename_i e hu
      split at h
      · rename_i s z0 hs hz
        split at h
        · cases h
        · rename_i hle
          injection h with h1 h2 h3
          subst h2
          exact ⟨t, parts, e, s, z0, rfl, hu, hs, hz, by omega, by omega, h1.symm, h3.symm⟩
      · cases h
    · cases h
  all_goals (simp only [toK] at h; (try (repeat' split at h)) <;> cases h)

theorem toK_ld {op : Op} {n : Option Nat} {x : Operand} (h : toK P op = .ld n x) : ∃ t, op = .load t x ∧ varT P t = some n := by
  cases op
  case slice t x lo hi mx => cases mx <;> simp only [toK] at h <;> (repeat' split at h) <;> cases h
  case load t y =>
    simp only [toK] at h
    split at h
    · rename_i m hz; injection h with h1 h2; subst h1 h2; exact ⟨t, rfl, hz⟩
    · cases h
  all_goals (simp only [toK] at h; (try (repeat' split at h)) <;> cases h)
theorem run_ld1 {dst : Option Tmp} {type : TypeId} {pos : String} {after : Array Edge} {guard : Option (Nat × Bool)} {t : TypeId} {x : Operand} {b k : Nat} {v : Value} {w : World} {ts : Array Value} (hσ : SlOK σ ts) (hv : varT P t = some none) (hx : ev σ x = some (.pointer (some ⟨b, k, none⟩))) (hc : w.cell? ⟨b, k, none⟩ = some v) :
    (execOp (Act.eval ⟨ts, []⟩) ⟨dst, .load t x, type, pos, after, guard⟩).run P w = .ok (.value v) w := by
  simp [execOp, Instr.loadAt, Instr.sureAddr, ev_ok hσ hx, run_loadVar_one hv hc]
theorem run_ldn {dst : Option Tmp} {type : TypeId} {pos : String} {after : Array Edge} {guard : Option (Nat × Bool)} {t : TypeId} {x : Operand} {b k n : Nat} {vs : List Value} {w : World} {ts : Array Value} (hσ : SlOK σ ts) (hv : varT P t = some (some n)) (hx : ev σ x = some (.pointer (some ⟨b, k, none⟩))) (hl : vs.length = n) (hc : ∀ j v, vs[j]? = some v → w.cell? ⟨b, k + j, none⟩ = some v) :
    (execOp (Act.eval ⟨ts, []⟩) ⟨dst, .load t x, type, pos, after, guard⟩).run P w = .ok (.value (.agg vs.toArray)) w := by
  simp [execOp, Instr.loadAt, Instr.sureAddr, ev_ok hσ hx, run_loadVar_many hv hl hc]

theorem run_bsl {t n : Nat} {parts : Array (Nat × Value)} {e s : Nat} {z0 cs : List Value} {vs : List (Nat × Nat × Value)} (hu : P.underlying t = some (.slice e)) (hs : sizT P e = some s) (hz : zerT P e = some z0) (hn : n * s ≤ 2 ^ 24) (h0 : 0 < z0.length)
    (hvs : vs = parts.toList.map fun p => (p.1 * s, s, p.2)) (hl : lay ((List.range (n * s)).map fun i => z0.getD (i % z0.length) undef) vs = some cs) (w : World) :
    (Instr.buildSlice t n parts).run P w = .ok (slTo n w.heap.size) (w.alloc (.cells cs.toArray e)) := by
  obtain ⟨zv, hz1, hz2⟩ := zerT_run hz w
  have hfill : ∀ zz : Array Value, zz.toList = z0 ∨ n * s = 0 → Instr.fill (fun i => some (i * s, s)) ((Array.range (n * s)).map (zz[· % zz.size]!)) parts.toList = some cs.toArray := by
    intro zz hzz
    have e1 : (Array.range (n * s)).map (zz[· % zz.size]!) = ((List.range (n * s)).map fun i => z0.getD (i % z0.length) undef).toArray := by
      apply Array.ext'
      simp only [Array.toList_map, Array.toList_range]
      rcases hzz with hzz | hzz
      · apply List.map_congr_left
        intro i hi
        subst hzz
        have hm : i % zz.toList.length < zz.toList.length := Nat.mod_lt _ h0
        simp only [Array.length_toList] at hm ⊢
        rw [getElem!_pos zz _ hm]
        simp [List.getD_eq_getElem?_getD, hm]
      · simp [hzz]
    rw [e1]
    exact lay_fill (by rw [hvs]; simp [Function.comp_def]) hl
  have hle : ¬ 2 ^ 24 < n * s := by omega
  simp only [Instr.buildSlice, Sem.run_bind, run_underlying hu, Result.andThen_ok, sizT_run hs]
  rw [if_neg hle]
  by_cases hc : n * s = 0
  · rw [if_pos hc]
    simp only [Sem.run_bind, Sem.run_pure, Result.andThen_ok, hfill #[] (Or.inr hc)]
    simp [newRow, slTo]
  · rw [if_neg hc]
    simp only [Sem.run_bind, hz1, Result.andThen_ok, Sem.run_pure, hfill zv.cells (Or.inl hz2)]
    simp [newRow, slTo]

/-- An operation with a plain outcome, run. -/
theorem dv_run {o : O} {e : E} {F : List Own} {p : Oper} {ts : Array Value} {w : World} {K : Act → World → Prop} {R : Exit → Act → World → Prop} (h : DV P H S σ o e) (hg : wtd σ o.g = some true)
    (hk : toK P p.op = o.k) (hd : p.dst = o.d) (hσ : SlOK σ ts) (hH : HOK (F ++ H) S w)
    (hK : ∀ v F1 w1, (match e with
      | .v x => v = x ∧ F1 = F
      | .a cs mk => v = mk w.heap.size ∧ F1 = ⟨some w.heap.size, cs, cs.length⟩ :: F) → HOK (F1 ++ H) S w1 → Step (F ++ H) S w (F1 ++ H) S w1 → K (Act.put ⟨ts, []⟩ o.d v) w1) : p.wp P ⟨ts, []⟩ w K R := by
  have hHH : HOK H S w := (hH.perm List.perm_append_comm).drop
  have hal : ∀ (arr : Array Value) (t : TypeId), HOK ((⟨some w.heap.size, arr.toList, arr.size⟩ :: F) ++ H) S (w.alloc (.cells arr t)) ∧ Step (F ++ H) S w ((⟨some w.heap.size, arr.toList, arr.size⟩ :: F) ++ H) S (w.alloc (.cells arr t)) := fun arr t => hH.alloc arr t
  obtain ⟨dst, op, type, pos, after, guard⟩ := p
  simp only at hk hd
  cases h with
  | quiet hw h =>
    rw [← hk] at h
    have := quiet (df := []) (o := ⟨dst, op, type, pos, after, guard⟩) hσ hHH h
    unfold Oper.wp
    rw [this, Oper.upon_value]
    simp only [hd]
    exact hK _ F w ⟨rfl, rfl⟩ hH (Step.refl _ _ _)
  | quietH hw hf h =>
    have h := h w hHH
    rw [← hk] at h
    have := quiet (df := []) (o := ⟨dst, op, type, pos, after, guard⟩) hσ hHH h
    unfold Oper.wp
    rw [this, Oper.upon_value]
    simp only [hd]
    exact hK _ F w ⟨rfl, rfl⟩ hH (Step.refl _ _ _)
  | skip hw h => rw [hw] at hg; cases hg
  | new hw h =>
    rw [h] at hk
    obtain ⟨t, rfl, hz⟩ := toK_new hk
    obtain ⟨v, hv1, hv2⟩ := zerT_run hz w
    obtain ⟨a1, a2⟩ := hal v.cells t
    unfold Oper.wp
    have : (execOp (Act.eval ⟨ts, []⟩) ⟨dst, .alloc t, type, pos, after, guard⟩).run P w = .ok (.value (ptrTo w.heap.size)) (w.alloc (.cells v.cells t)) := by
      simp [execOp, Instr.alloc, hv1, newVar, newRow, ptrTo]
    rw [this, Oper.upon_value]
    simp only [hd]
    have e1 : v.cells.size = v.cells.toList.length := by simp
    rw [e1, hv2] at a1 a2
    exact hK _ _ _ ⟨rfl, rfl⟩ a1 a2
  | box hw h hv =>
    rename_i x v
    rw [h] at hk
    obtain ⟨t, rfl⟩ := toK_box hk
    obtain ⟨a1, a2⟩ := hal v.cells t
    unfold Oper.wp
    have : (execOp (Act.eval ⟨ts, []⟩) ⟨dst, .box t x, type, pos, after, guard⟩).run P w = .ok (.value (ptrTo w.heap.size)) (w.alloc (.cells v.cells t)) := by
      simp [execOp, Instr.box, ev_ok hσ hv, newVar, newRow, ptrTo]
    rw [this, Oper.upon_value]
    simp only [hd]
    have e1 : v.cells.size = (cl v).length := by simp [cl]
    rw [e1] at a1 a2
    exact hK _ _ _ ⟨rfl, rfl⟩ a1 a2
  | bsl hw h hv hl =>
    rename_i z cs n ps vs
    rw [h] at hk
    obtain ⟨t, parts, e, s, z0, rfl, hu, hs, hz, hn, h0, hz2, hps⟩ := toK_bsl hk
    have hvs := evp_ok hσ (df := []) hv
    have hr := run_bsl (P := P) (parts := parts.map fun p => (p.1, Act.eval ⟨ts, []⟩ p.2)) hu hs hz hn h0 (vs := vs) (cs := cs) (by rw [hvs, hps]; simp [Function.comp_def]) (by rw [← hz2]; exact hl) w
    obtain ⟨a1, a2⟩ := hal cs.toArray e
    unfold Oper.wp
    have : (execOp (Act.eval ⟨ts, []⟩) ⟨dst, .buildSlice t n parts, type, pos, after, guard⟩).run P w = .ok (.value (slTo n w.heap.size)) (w.alloc (.cells cs.toArray e)) := by
      simp only [execOp, Sem.run_bind, hr, Result.andThen_ok]; rfl
    rw [this, Oper.upon_value]
    simp only [hd]
    simp only [List.size_toArray] at a1 a2
    exact hK _ _ _ ⟨rfl, rfl⟩ a1 a2
  | eqt hw h hx hy hr hv =>
    rename_i neg t x y a b r v
    rw [h] at hk
    obtain ⟨yt, rfl⟩ := toK_eqt hk
    unfold Oper.wp
    rw [eqV_run hr neg ⟨ts, []⟩ dst yt type pos after guard (ev_ok hσ hx) (ev_ok hσ hy) w, Oper.upon_value]
    simp only [hd]
    subst hv
    exact hK _ F w ⟨rfl, rfl⟩ hH (Step.refl _ _ _)
  | eqp hw h hx hy hr hv =>
    rename_i neg t x y a b r v
    rw [h] at hk
    obtain ⟨yt, rfl⟩ := toK_eqt hk
    unfold Oper.wp
    rw [eqP_run hr neg ⟨ts, []⟩ dst yt type pos after guard (ev_ok hσ hx) (ev_ok hσ hy) w (fun k hk => (hHH.pl_ k hk).2), Oper.upon_value]
    simp only [hd]
    subst hv
    exact hK _ F w ⟨rfl, rfl⟩ hH (Step.refl _ _ _)
  | ld1 hw h hx hr =>
    rw [h] at hk
    obtain ⟨t, rfl, hz⟩ := toK_ld hk
    unfold Oper.wp
    rw [run_ld1 hσ hz hx (hr.ok hHH), Oper.upon_value]
    simp only [hd]
    exact hK _ F w ⟨rfl, rfl⟩ hH (Step.refl _ _ _)
  | ldn hw h hx hr =>
    rw [h] at hk
    obtain ⟨t, rfl, hz⟩ := toK_ld hk
    obtain ⟨r1, r2⟩ := hr.ok hHH
    unfold Oper.wp
    rw [run_ldn hσ hz hx r1 r2, Oper.upon_value]
    simp only [hd]
    exact hK _ F w ⟨rfl, rfl⟩ hH (Step.refl _ _ _)
  | ldnH hw h hx hr =>
    rw [h] at hk
    obtain ⟨t, rfl, hz⟩ := toK_ld hk
    obtain ⟨r1, r2⟩ := (hr w hHH).ok hHH
    unfold Oper.wp
    rw [run_ldn hσ hz hx r1 r2, Oper.upon_value]
    simp only [hd]
    exact hK _ F w ⟨rfl, rfl⟩ hH (Step.refl _ _ _)
  | call hw h hv hc =>
    rename_i f xs vs v
    rw [h] at hk
    obtain ⟨c, rfl, c1, c2, c3⟩ := toK_call hk
    obtain ⟨callee, args, ats⟩ := c
    simp only at c1 c2
    subst c1
    have e1 := evs_ok hσ (df := []) hv
    have e2 : args.map (Act.eval ⟨ts, []⟩) = vs.toArray := by apply Array.ext'; rw [← e1, ← c2]; simp
    unfold Oper.wp
    have : (execOp (Act.eval ⟨ts, []⟩) ⟨dst, .call ⟨.value (.func f), args, ats⟩, type, pos, after, guard⟩).run P w = .ok (.enter f vs.toArray) w := by
      simp [execOp, resolve, Act.eval, Deferred.ofValue, invoke, e2, run_callFunc c3]
    rw [this, Oper.upon_enter]
    refine call_post (o := ⟨dst, .fail, none⟩) (H := F ++ H) (H1 := []) (F := F ++ H) (List.Perm.refl _) hc hH ?_
    rintro v' H' S' w' ⟨rfl, rfl, rfl⟩ a1 a2
    simp only [hd]
    exact hK _ F w' ⟨rfl, rfl⟩ a1 a2
  | callr hw h hv hp hc =>
    rename_i f xs vs v A F0
    rw [h] at hk
    obtain ⟨c, rfl, c1, c2, c3⟩ := toK_call hk
    obtain ⟨callee, args, ats⟩ := c
    simp only at c1 c2
    subst c1
    have e1 := evs_ok hσ (df := []) hv
    have e2 : args.map (Act.eval ⟨ts, []⟩) = vs.toArray := by apply Array.ext'; rw [← e1, ← c2]; simp
    have hp2 : (F ++ H).Perm (A ++ (F ++ F0)) := (List.Perm.append_left F hp).trans (by rw [← List.append_assoc, ← List.append_assoc]; exact List.Perm.append_right F0 List.perm_append_comm)
    unfold Oper.wp
    have : (execOp (Act.eval ⟨ts, []⟩) ⟨dst, .call ⟨.value (.func f), args, ats⟩, type, pos, after, guard⟩).run P w = .ok (.enter f vs.toArray) w := by
      simp [execOp, resolve, Act.eval, Deferred.ofValue, invoke, e2, run_callFunc c3]
    rw [this, Oper.upon_enter]
    refine call_post (o := ⟨dst, .fail, none⟩) (H := F ++ H) (H1 := A) (F := F ++ F0) hp2 hc hH ?_
    rintro v' H' S' w' ⟨rfl, rfl, rfl⟩ a1 a2
    simp only [hd]
    exact hK _ F w' ⟨rfl, rfl⟩ (a1.perm hp2.symm) ((show Step _ _ _ _ _ _ from a2).toPerm hp2.symm)
  | clor hw h hf hok hv hp hc =>
    rename_i x f caps xs vs v A F0
    rw [h] at hk
    obtain ⟨c, rfl, c1, c2⟩ := toK_clo hk
    obtain ⟨callee, args, ats⟩ := c
    simp only at c1 c2
    subst c1
    have e1 := evs_ok hσ (df := []) hv
    have e2 : args.map (Act.eval ⟨ts, []⟩) = vs.toArray := by apply Array.ext'; rw [← e1, ← c2]; simp
    have hp2 : (F ++ H).Perm (A ++ (F ++ F0)) := (List.Perm.append_left F hp).trans (by rw [← List.append_assoc, ← List.append_assoc]; exact List.Perm.append_right F0 List.perm_append_comm)
    unfold Oper.wp
    have : (execOp (Act.eval ⟨ts, []⟩) ⟨dst, .call ⟨.value x, args, ats⟩, type, pos, after, guard⟩).run P w = .ok (.enter f (vs ++ caps.toList).toArray) w := by
      simp [execOp, resolve, ev_ok hσ hf, Deferred.ofValue, invoke, e2, run_callFunc hok]
    rw [this, Oper.upon_enter]
    refine call_post (o := ⟨dst, .fail, none⟩) (H := F ++ H) (H1 := A) (F := F ++ F0) hp2 hc hH ?_
    rintro v' H' S' w' ⟨rfl, rfl, rfl⟩ a1 a2
    simp only [hd]
    exact hK _ F w' ⟨rfl, rfl⟩ (a1.perm hp2.symm) ((show Step _ _ _ _ _ _ from a2).toPerm hp2.symm)
end
end Go.Proofs.YtobjaddicodiaaaDoorE
end

section
/- A region that draws its order: the rule. -/
namespace Go.Proofs.YtobjaddicodiaaaDoorE
open Go Go.RowKit
set_option linter.unusedVariables false
set_option linter.unusedSimpArgs false

/-! ### what comes before what -/
inductive Bef (ds : List (List Nat)) : Nat → Nat → Prop
  | one {j i : Nat} {d : List Nat} (h : ds[j]? = some d) (hi : i ∈ d) : Bef ds j i
  | more {j k i : Nat} {d : List Nat} (h : ds[j]? = some d) (hk : k ∈ d) (b : Bef ds k i) : Bef ds j i
def mk1 (acc : List Nat) (d : List Nat) : Nat := d.foldl (fun s e => s ||| 2 ^ e ||| acc.getD e 0) 0
def masks : List (List Nat) → List Nat → List Nat
  | [], acc => acc
  | d :: r, acc => masks r (acc ++ [mk1 acc d])
theorem mk1_bit {acc : List Nat} : ∀ (d : List Nat) (s i : Nat), (d.foldl (fun s e => s ||| 2 ^ e ||| acc.getD e 0) s).testBit i = true → s.testBit i = true ∨ i ∈ d ∨ ∃ e ∈ d, (acc.getD e 0).testBit i = true
  | [], s, i, h => Or.inl h
  | e :: d, s, i, h => by
    rcases mk1_bit d _ i h with h | h | ⟨e', h1, h2⟩
    · simp only [Nat.testBit_or, Bool.or_eq_true, Nat.testBit_two_pow] at h
      rcases h with (h | h) | h
      · exact Or.inl h
      · exact Or.inr (Or.inl (by simp at h; simp [h]))
      · exact Or.inr (Or.inr ⟨e, by simp, h⟩)
    · exact Or.inr (Or.inl (by simp [h]))
    · exact Or.inr (Or.inr ⟨e', by simp [h1], h2⟩)
theorem masks_bef {full : List (List Nat)} : ∀ (l : List (List Nat)) (acc : List Nat), full.drop acc.length = l → (∀ j i, (acc.getD j 0).testBit i = true → Bef full j i) →
    ∀ j i, ((masks l acc).getD j 0).testBit i = true → Bef full j i
  | [], acc, _, h => h
  | d :: r, acc, hl, h => by
    have hd : full[acc.length]? = some d := by
      have := congrArg (·[0]?) hl
      simpa using this
    refine masks_bef r (acc ++ [mk1 acc d]) ?_ ?_
    · have := congrArg (List.drop 1) hl
      simpa [Nat.add_comm] using this
    · intro j i hb
      simp only [List.getD_eq_getElem?_getD, List.getElem?_append] at hb
      split at hb
      · exact h j i (by simpa [List.getD_eq_getElem?_getD] using hb)
      · rename_i hj
        by_cases hj2 : j = acc.length
        · subst hj2
          simp only [Nat.sub_self, List.getElem?_cons_zero, Option.getD_some] at hb
          rcases mk1_bit d 0 i hb with h0 | h1 | ⟨e, h1, h2⟩
          · simp at h0
          · exact .one hd h1
          · exact .more hd h1 (h e i h2)
        · have : [mk1 acc d][j - acc.length]? = none := by
            rw [List.getElem?_eq_none]; simp; omega
          rw [this] at hb
          simp at hb

def apartO (x y : O) : Bool := (match x.d with
  | some d => !(oT y).contains d && !(y.d == some d)
  | none => true) && (match y.d with
  | some d => !(oT x).contains d
  | none => true)
def statB (ops : List O) (m : Nat) (ds : List (List Nat)) : Bool :=
  let M := masks ds []
  (List.range ops.length).all fun j =>
    ((ds.getD j []).all (· < j)) && (List.range j).all fun i => (M.getD j 0).testBit i || (decide (j < m) && apartO (ops.getD i ⟨none, .fail, none⟩) (ops.getD j ⟨none, .fail, none⟩))

structure Stat (ops : List O) (m : Nat) (ds : List (List Nat)) : Prop where
  back : ∀ j < ops.length, ∀ e ∈ ds.getD j [], e < j
  ap : ∀ j < ops.length, j < m → ∀ i < j, Bef ds j i ∨ apartO (ops.getD i ⟨none, .fail, none⟩) (ops.getD j ⟨none, .fail, none⟩) = true
  tail : ∀ j < ops.length, m ≤ j → ∀ i < j, Bef ds j i
theorem stat_of {ops : List O} {m : Nat} {ds : List (List Nat)} (h : statB ops m ds = true) : Stat ops m ds := by
  unfold statB at h
  simp only [List.all_eq_true, List.mem_range, Bool.and_eq_true, Bool.or_eq_true, decide_eq_true_eq] at h
  have hb := masks_bef (full := ds) ds [] (by simp) (by intro j i h; simp at h)
  refine ⟨fun j hj e he => (h j hj).1 e he, fun j hj hm i hi => ?_, fun j hj hm i hi => ?_⟩
  · rcases (h j hj).2 i hi with h1 | h1
    · exact Or.inl (hb j i h1)
    · exact Or.inr h1.2
  · rcases (h j hj).2 i hi with h1 | h1
    · exact hb j i h1
    · omega

/-! ### who wrote last -/
def lw : List (O × E) → Nat → (Nat → Bool) → Nat → Option (Nat × E)
  | [], _, _, _ => none
  | (o, e) :: r, i, A, t => match lw r (i + 1) A t with
    | some x => some x
    | none => if A i = true ∧ o.d = some t then some (i, e) else none
theorem lw_congr {A A' : Nat → Bool} {t : Nat} : ∀ (l : List (O × E)) (i : Nat), (∀ j o e, l[j]? = some (o, e) → o.d = some t → A (i + j) = A' (i + j)) → lw l i A t = lw l i A' t
  | [], _, _ => rfl
  | (o, e) :: r, i, h => by
    unfold lw
    rw [lw_congr (A' := A') r (i + 1) (fun j o' e' h1 h2 => by have := h (j + 1) o' e' h1 h2; rwa [show i + (j + 1) = i + 1 + j from by omega] at this)]
    have h0 := h 0 o e (by simp)
    rw [Nat.add_zero] at h0
    by_cases hd : o.d = some t
    · simp only [hd, and_true]; rw [h0 hd]
    · simp only [hd, and_false, if_false]
theorem lw_none {A : Nat → Bool} {t : Nat} : ∀ (l : List (O × E)) (i : Nat), (∀ j o e, l[j]? = some (o, e) → A (i + j) = true → o.d ≠ some t) → lw l i A t = none
  | [], _, _ => rfl
  | (o, e) :: r, i, h => by
    unfold lw
    rw [lw_none r (i + 1) (fun j o' e' h1 h2 => h (j + 1) o' e' h1 (by rwa [show i + (j + 1) = i + 1 + j from by omega]))]
    have h0 := h 0 o e (by simp)
    simp only [Nat.add_zero] at h0
    simp only
    rw [if_neg (fun hc => h0 hc.1 hc.2)]
theorem lw_last {A : Nat → Bool} {t : Nat} : ∀ (l : List (O × E)) (i k : Nat) (o : O) (e : E), l[k]? = some (o, e) → o.d = some t → A (i + k) = true → (∀ j o' e', k < j → l[j]? = some (o', e') → A (i + j) = true → o'.d ≠ some t) → lw l i A t = some (i + k, e)
  | [], _, k, _, _, h, _, _, _ => by simp at h
  | (o, e) :: r, i, 0, o1, e1, h, hd, hA, hno => by
    simp at h
    obtain ⟨rfl, rfl⟩ := h
    unfold lw
    rw [lw_none r (i + 1) (fun j o' e' h1 h2 => hno (j + 1) o' e' (by omega) h1 (by rwa [show i + (j + 1) = i + 1 + j from by omega]))]
    simp only
    rw [if_pos ⟨by simpa using hA, hd⟩]
    rfl
  | (o, e) :: r, i, k + 1, o1, e1, h, hd, hA, hno => by
    unfold lw
    rw [lw_last r (i + 1) k o1 e1 (by simpa using h) hd (by rwa [show i + 1 + k = i + (k + 1) from by omega]) (fun j o' e' h0 h1 h2 => hno (j + 1) o' e' (by omega) h1 (by rwa [show i + (j + 1) = i + 1 + j from by omega]))]
    simp only
    rw [show i + 1 + k = i + (k + 1) from by omega]

theorem lw_some {A : Nat → Bool} {t : Nat} : ∀ (l : List (O × E)) (i : Nat) {j : Nat} {e : E}, lw l i A t = some (j, e) → ∃ k o, j = i + k ∧ l[k]? = some (o, e) ∧ o.d = some t ∧ A j = true
  | [], _, _, _, h => by simp [lw] at h
  | (o, e) :: r, i, j, e1, h => by
    unfold lw at h
    split at h
    · rename_i x hx
      obtain ⟨x1, x2⟩ := x
      simp only [Option.some.injEq, Prod.mk.injEq] at h
      obtain ⟨rfl, rfl⟩ := h
      obtain ⟨k, o', h1, h2, h3, h4⟩ := lw_some r (i + 1) hx
      exact ⟨k + 1, o', by omega, by simpa using h2, h3, h4⟩
    · split at h
      · rename_i hc
        simp only [Option.some.injEq, Prod.mk.injEq] at h
        obtain ⟨rfl, rfl⟩ := h
        exact ⟨0, o, rfl, rfl, hc.2, hc.1⟩
      · cases h

/-! ### in the text's order -/
def rm (d : Option Nat) (σ : Sl) : Sl := match d with
  | none => σ
  | some d => σ.filter fun p => !(p.1 == d)
theorem gt_rm {d t : Nat} : ∀ {σ : Sl}, gt (rm (some d) σ) t = if d = t then none else gt σ t
  | [] => by simp [rm, gt]
  | (k, v) :: r => by
    have ih := gt_rm (d := d) (t := t) (σ := r)
    simp only [rm] at ih ⊢
    by_cases hk : k = d
    · subst hk
      simp only [List.filter_cons, beq_self_eq_true, Bool.not_true, Bool.false_eq_true, if_false, ih, gt]
      split <;> rfl
    · simp only [List.filter_cons, beq_iff_eq, hk, Bool.not_eq_true', beq_eq_false_iff_ne, ne_eq, not_false_eq_true, if_true, gt, ih]
      by_cases hd : d = t
      · subst hd; simp [hk]
      · simp [hd]
def upd (σ : Sl) (o : O) : E → Sl
  | .v x => pt σ o.d x
  | .a _ _ => rm o.d σ
def DL (P : Program) (H : List Own) (S : Seal) : List (O × E) → Sl → Prop
  | [], _ => True
  | (o, e) :: r, σ => DV P H S σ o e ∧ DL P H S r (upd σ o e)

/-- What a slot holds, behind some of the operations. -/
def gv (σ : Sl) (l : List (O × E)) (i : Nat) (A : Nat → Bool) (t : Nat) : Option Value := match lw l i A t with
  | none => gt σ t
  | some (_, .v x) => some x
  | some (_, .a _ _) => none
theorem gv_cons {σ : Sl} {o : O} {e : E} {r : List (O × E)} {i : Nat} {A : Nat → Bool} {t : Nat} (h : A i = true) : gv σ ((o, e) :: r) i A t = gv (upd σ o e) r (i + 1) A t := by
  unfold gv
  simp only [lw]
  cases hl : lw r (i + 1) A t with
  | some x => obtain ⟨j, e'⟩ := x; cases e' <;> rfl
  | none =>
    simp only [h, true_and]
    by_cases hd : o.d = some t
    · rw [if_pos hd]
      cases e with
      | v x => simp [upd, pt, hd, gt]
      | a cs mk => simp [upd, hd, gt_rm]
    · rw [if_neg hd]
      cases e with
      | v x =>
        cases ho : o.d with
        | none => simp [upd, pt, ho]
        | some d => simp only [upd, pt, ho, gt]; rw [if_neg (fun hc => hd (by rw [ho, hc]))]
      | a cs mk =>
        cases ho : o.d with
        | none => simp [upd, rm, ho]
        | some d => simp only [upd, ho, gt_rm]; rw [if_neg (fun hc => hd (by rw [ho, hc]))]

theorem DL_at {P : Program} {H : List Own} {S : Seal} : ∀ {l : List (O × E)} {σ : Sl} {k i : Nat} {o : O} {e : E}, DL P H S l σ → l[k]? = some (o, e) →
    ∃ σ1, DV P H S σ1 o e ∧ ∀ t, gt σ1 t = gv σ l i (fun j => decide (j < i + k)) t
  | [], _, _, _, _, _, _, h => by simp at h
  | (o, e) :: r, σ, 0, i, o1, e1, h, hk => by
    simp at hk
    obtain ⟨rfl, rfl⟩ := hk
    refine ⟨σ, h.1, fun t => ?_⟩
    unfold gv
    rw [lw_none _ _ (fun j o' e' _ h2 => by have h3 := of_decide_eq_true h2; omega)]
  | (o, e) :: r, σ, k + 1, i, o1, e1, h, hk => by
    obtain ⟨σ1, h1, h2⟩ := DL_at (i := i + 1) h.2 (by simpa using hk)
    refine ⟨σ1, h1, fun t => ?_⟩
    rw [h2 t, gv_cons (by simp)]
    rw [show i + 1 + k = i + (k + 1) from by omega]

/-! ### new blocks -/
def nw (β : Nat → Nat) (i : Nat) : E → List Own
  | .v _ => []
  | .a cs _ => [⟨some (β i), cs, cs.length⟩]
def nws : List (O × E) → Nat → (Nat → Bool) → (Nat → Nat) → List Own
  | [], _, _, _ => []
  | (_, e) :: r, i, A, β => (if A i = true then nw β i e else []) ++ nws r (i + 1) A β
theorem nws_congr {A A' : Nat → Bool} {β β' : Nat → Nat} : ∀ (l : List (O × E)) (i : Nat), (∀ j, i ≤ j → j < i + l.length → A j = A' j) → (∀ j, i ≤ j → j < i + l.length → A j = true → β j = β' j) → nws l i A β = nws l i A' β'
  | [], _, _, _ => rfl
  | (o, e) :: r, i, h, g => by
    simp only [List.length_cons] at h g
    unfold nws
    rw [nws_congr r (i + 1) (fun j hj hj2 => h j (by omega) (by omega)) (fun j hj hj2 => g j (by omega) (by omega)), ← h i (Nat.le_refl _) (by omega)]
    by_cases hA : A i = true
    · simp only [hA, if_true]; congr 1; cases e <;> simp [nw, g i (Nat.le_refl _) (by omega) hA]
    · simp only [hA, if_false, Bool.false_eq_true]
theorem nws_set {A : Nat → Bool} {β : Nat → Nat} {b : Nat} : ∀ (l : List (O × E)) (i k : Nat) (o : O) (e : E), l[k]? = some (o, e) → A (i + k) = false →
    (nws l i (fun j => A j || decide (j = i + k)) (fun j => if j = i + k then b else β j)).Perm ((match e with
      | .v _ => []
      | .a cs _ => [⟨some b, cs, cs.length⟩]) ++ nws l i A β)
  | [], _, _, _, _, h, _ => by simp at h
  | (o, e) :: r, i, 0, o1, e1, h, hA => by
    simp at h
    obtain ⟨rfl, rfl⟩ := h
    simp only [Nat.add_zero] at hA
    unfold nws
    rw [nws_congr (A := fun j => A j || decide (j = i + 0)) (A' := A) (β := fun j => if j = i + 0 then b else β j) (β' := β) r (i + 1) (fun j hj _ => by simp; omega) (fun j hj _ _ => by rw [if_neg (by omega)])]
    simp only [hA, Nat.add_zero, Bool.false_or, decide_true, if_true, Bool.false_eq_true, if_false, List.nil_append]
    cases e <;> simp [nw]
  | (o, e) :: r, i, k + 1, o1, e1, h, hA => by
    have ih := nws_set (A := A) (β := β) (b := b) r (i + 1) k o1 e1 (by simpa using h) (by rwa [show i + 1 + k = i + (k + 1) from by omega])
    rw [show i + 1 + k = i + (k + 1) from by omega] at ih
    unfold nws
    have e0 : (A i || decide (i = i + (k + 1))) = A i := by simp
    simp only [e0]
    have e2 : (if A i = true then nw (fun j => if j = i + (k + 1) then b else β j) i e else []) = (if A i = true then nw β i e else []) := by
      split
      · cases e <;> simp [nw]
      · rfl
    rw [e2]
    refine (List.Perm.append_left _ ih).trans ?_
    rw [← List.append_assoc, ← List.append_assoc]
    exact List.Perm.append_right _ List.perm_append_comm
end Go.Proofs.YtobjaddicodiaaaDoorE
end

section
/- A region that draws its order: the rule, joined. -/
set_option maxHeartbeats 1000000
namespace Go.Proofs.YtobjaddicodiaaaDoorE
open Go Go.RowKit
set_option linter.unusedVariables false
set_option linter.unusedSimpArgs false

def finK (S : Seal) : List (O × E) → Sl → List Own → (Sl → List Own → Prop) → Prop
  | [], σ, H, K => K σ H
  | (o, .v x) :: r, σ, H, K => finK S r (pt σ o.d x) H K
  | (o, .a cs mk) :: r, σ, H, K => ∀ b, Fr b H → S b = none → finK S r (pt σ o.d (mk b)) (⟨some b, cs, cs.length⟩ :: H) K

def gb (σ : Sl) (l : List (O × E)) (i : Nat) (A : Nat → Bool) (β : Nat → Nat) (t : Nat) : Option Value := match lw l i A t with
  | none => gt σ t
  | some (_, .v x) => some x
  | some (j, .a _ mk) => some (mk (β j))
def valE (β : Nat → Nat) (i : Nat) : E → Value
  | .v x => x
  | .a _ mk => mk (β i)
theorem gb_cons {σ : Sl} {o : O} {e : E} {r : List (O × E)} {i : Nat} {A : Nat → Bool} {β : Nat → Nat} {t : Nat} (h : A i = true) : gb σ ((o, e) :: r) i A β t = gb (pt σ o.d (valE β i e)) r (i + 1) A β t := by
  unfold gb
  simp only [lw]
  cases hl : lw r (i + 1) A t with
  | some x => obtain ⟨j, e'⟩ := x; cases e' <;> rfl
  | none =>
    simp only [h, true_and]
    by_cases hd : o.d = some t
    · rw [if_pos hd]
      cases e <;> simp [pt, hd, gt, valE]
    · rw [if_neg hd]
      cases ho : o.d with
      | none => simp [pt, ho]
      | some d => simp only [pt, ho, gt]; rw [if_neg (fun hc => hd (by rw [ho, hc]))]

theorem finK_of {S : Seal} {K : Sl → List Own → Prop} {β : Nat → Nat} {w : World} : ∀ {l : List (O × E)} {i : Nat} {σ : Sl} {H : List Own}, finK S l σ H K → HOK (nws l i (fun _ => true) β ++ H) S w →
    ∃ σ' H', K σ' H' ∧ (∀ t, gt σ' t = gb σ l i (fun _ => true) β t) ∧ (nws l i (fun _ => true) β ++ H).Perm H'
  | [], i, σ, H, h, _ => ⟨σ, H, h, fun t => rfl, by simp [nws]⟩
  | (o, .v x) :: r, i, σ, H, h, hH => by
    simp only [nws, nw, if_true, List.nil_append] at hH ⊢
    obtain ⟨σ', H', k, g, p⟩ := finK_of (i := i + 1) (l := r) (σ := pt σ o.d x) (H := H) h hH
    exact ⟨σ', H', k, fun t => by rw [g t, gb_cons rfl]; rfl, p⟩
  | (o, .a cs mk) :: r, i, σ, H, h, hH => by
    simp only [nws, nw, if_true] at hH ⊢
    have hp : ([(⟨some (β i), cs, cs.length⟩ : Own)] ++ nws r (i + 1) (fun _ => true) β ++ H).Perm (nws r (i + 1) (fun _ => true) β ++ (⟨some (β i), cs, cs.length⟩ :: H)) := by
      rw [List.append_assoc]
      refine List.Perm.trans ?_ List.perm_middle.symm
      exact List.Perm.refl _
    have hH2 := hH.perm hp
    have hnd := hH2.nd
    rw [bs_append, List.nodup_append] at hnd
    have hb := hnd.2.1
    rw [bs_some, List.nodup_cons] at hb
    obtain ⟨σ', H', k, g, p⟩ := finK_of (i := i + 1) (h (β i) (Fr.of hb.1) (hH2.dis (β i) (mem_bs.2 ⟨⟨some (β i), cs, cs.length⟩, by simp, rfl⟩))) hH2
    exact ⟨σ', H', k, fun t => by rw [g t, gb_cons rfl]; rfl, hp.trans p⟩

def cnt : Nat → (Nat → Bool) → Nat
  | 0, _ => 0
  | n + 1, A => cnt n A + (if A n = true then 0 else 1)
theorem cnt_le {A A' : Nat → Bool} (h : ∀ j, A j = true → A' j = true) : ∀ n, cnt n A' ≤ cnt n A
  | 0 => Nat.le_refl _
  | n + 1 => by
    have := cnt_le h n
    simp only [cnt]
    by_cases h1 : A n = true
    · simp [h1, h n h1]; exact this
    · simp only [h1, if_false, Bool.false_eq_true]; split <;> omega
theorem cnt_lt {A A' : Nat → Bool} (h : ∀ j, A j = true → A' j = true) {i : Nat} (h1 : A i = false) (h2 : A' i = true) : ∀ n, i < n → cnt n A' < cnt n A
  | 0, hn => by omega
  | n + 1, hn => by
    simp only [cnt]
    by_cases e : i = n
    · subst e
      have := cnt_le h i
      simp [h1, h2]; omega
    · have := cnt_lt h h1 h2 n (by omega)
      by_cases h3 : A n = true
      · simp [h3, h n h3]; exact this
      · simp only [h3, if_false, Bool.false_eq_true]; split <;> omega
theorem cnt_zero {A : Nat → Bool} : ∀ {n}, cnt n A = 0 → ∀ j < n, A j = true
  | 0, _, j, hj => by omega
  | n + 1, h, j, hj => by
    simp only [cnt] at h
    by_cases e : j = n
    · subst e
      by_cases h1 : A j = true
      · exact h1
      · rw [if_neg h1] at h; omega
    · exact cnt_zero (A := A) (n := n) (by omega) j (by omega)

theorem cnt_ge {A : Nat → Bool} {m : Nat} (h : ∀ j, A j = true → j < m) : ∀ n, n - m ≤ cnt n A
  | 0 => by omega
  | n + 1 => by
    have := cnt_ge h n
    simp only [cnt]
    by_cases h1 : A n = true
    · have := h n h1
      omega
    · rw [if_neg h1]; omega
theorem least {A : Nat → Bool} : ∀ n, (¬ ∀ j < n, A j = true) → ∃ j, j < n ∧ A j = false ∧ ∀ i < j, A i = true
  | 0, h => absurd (fun j hj => by omega) h
  | n + 1, h => by
    by_cases h1 : ∀ j < n, A j = true
    · refine ⟨n, by omega, ?_, h1⟩
      cases h2 : A n with
      | false => rfl
      | true => exact absurd (fun j hj => by
          by_cases e : j = n
          · subst e; exact h2
          · exact h1 j (by omega)) h
    · obtain ⟨j, a, b, c⟩ := least n h1
      exact ⟨j, by omega, b, c⟩
theorem keep_get {σ : Sl} {t : Nat} : ∀ {L : List Nat}, t ∈ L → gt (keep L σ) t = gt σ t
  | [], h => by cases h
  | x :: L, h => by
    unfold keep
    cases hx : gt σ x with
    | none =>
      simp only [List.filterMap_cons, hx, Option.map_none]
      by_cases e : t = x
      · subst e
        rw [hx]
        by_cases hm : t ∈ L
        · have := keep_get (σ := σ) hm; unfold keep at this; rw [this, hx]
        · cases hg : gt (List.filterMap (fun t => (gt σ t).map fun v => (t, v)) L) t with
          | none => rfl
          | some v =>
            exfalso
            have : ∀ (L : List Nat) v, gt (List.filterMap (fun t => (gt σ t).map fun v => (t, v)) L) t = some v → t ∈ L := by
              intro L
              induction L with
              | nil => intro v h; cases h
              | cons y L ih =>
                intro v h
                cases hy : gt σ y with
                | none => simp only [List.filterMap_cons, hy, Option.map_none] at h; exact List.mem_cons_of_mem _ (ih v h)
                | some u =>
                  simp only [List.filterMap_cons, hy, Option.map_some, gt] at h
                  split at h
                  · rename_i e; subst e; simp
                  · exact List.mem_cons_of_mem _ (ih v h)
            exact hm (this L v hg)
      · have hm : t ∈ L := (List.mem_cons.1 h).resolve_left e
        have := keep_get (σ := σ) hm; unfold keep at this; exact this
    | some u =>
      simp only [List.filterMap_cons, hx, Option.map_some, gt]
      by_cases e : x = t
      · subst e; simp [hx]
      · rw [if_neg e]
        have hm : t ∈ L := (List.mem_cons.1 h).resolve_left (fun h => e h.symm)
        have := keep_get (σ := σ) hm; unfold keep at this; exact this
theorem Step.drew' {H : List Own} {S : Seal} {w : World} {H' : List Own} {S' : Seal} {w' : World} (h : Step H S w H' S' w') : Step H S w H' S' { w' with drawn := w'.drawn + 1 } :=
  ⟨⟨h.ext.os, h.ext.tape, h.ext.output, h.ext.size, h.ext.block⟩, h.new, h.snew, h.sold, h.spl⟩
theorem Step.perm' {H : List Own} {S S' : Seal} {w w' : World} {H' H2 : List Own} (h : Step H S w H' S' w') (p : H'.Perm H2) : Step H S w H2 S' w' :=
  ⟨h.ext, fun e he => h.new e ((bs_perm p).mem_iff.2 he), h.snew, h.sold, h.spl⟩

def lst (listed : Array Bool) (j : Nat) : Bool := listed.getD j false
theorem lst_set {listed : Array Bool} {i : Nat} (hi : i < listed.size) (j : Nat) : lst (listed.setIfInBounds i true) j = (lst listed j || decide (j = i)) := by
  unfold lst
  simp only [Array.getD_eq_getD_getElem?, Array.getElem?_setIfInBounds]
  by_cases h : i = j
  · subst h; simp [hi]
  · have h2 : ¬ j = i := fun e => h e.symm
    rw [if_neg h]; simp [h2]

section
variable {P : Program} {ops : Array Oper} {R : Exit → Act → World → Prop}

theorem ready_iff {listed : Array Bool} (hs : listed.size = ops.size) {i : Nat} : i ∈ Region.ready .any ops listed ↔ i < ops.size ∧ lst listed i = false ∧ ∀ e ∈ (ops.toList.map depsOf).getD i [], lst listed e = true := by
  unfold Region.ready
  simp only [List.mem_filter, List.mem_range, Bool.and_eq_true, Bool.not_eq_true']
  constructor
  · rintro ⟨h1, h2, h3⟩
    have hi : ops[i]? = some ops[i] := Array.getElem?_eq_getElem h1
    rw [hi] at h3
    refine ⟨h1, ?_, ?_⟩
    · unfold lst
      simp only [Array.getD_eq_getD_getElem?, Array.getElem?_eq_getElem (show i < listed.size by omega)] at h2 ⊢
      simpa using h2
    · intro e he
      simp only [List.getD_eq_getElem?_getD, List.getElem?_map, Array.getElem?_toList, hi, Option.map_some, Option.getD_some, depsOf, List.mem_map, List.mem_filter, Array.mem_toList_iff] at he
      obtain ⟨x, ⟨hx1, hx2⟩, rfl⟩ := he
      simp only [Option.map_some, Option.getD_some, Array.all_eq_true_iff_forall_mem, Bool.or_eq_true, Bool.not_eq_true'] at h3
      rcases h3 x hx1 with h4 | h4
      · rw [hx2] at h4; cases h4
      · exact h4
  · rintro ⟨h1, h2, h3⟩
    have hi : ops[i]? = some ops[i] := Array.getElem?_eq_getElem h1
    refine ⟨h1, ?_, ?_⟩
    · unfold lst at h2
      simp only [Array.getD_eq_getD_getElem?, Array.getElem?_eq_getElem (show i < listed.size by omega)] at h2 ⊢
      simpa using h2
    · rw [hi]
      simp only [Option.map_some, Option.getD_some, Array.all_eq_true_iff_forall_mem, Bool.or_eq_true, Bool.not_eq_true']
      intro x hx
      by_cases hb : Region.binds .any x = true
      · refine Or.inr (h3 x.on ?_)
        simp only [List.getD_eq_getElem?_getD, List.getElem?_map, Array.getElem?_toList, hi, Option.map_some, Option.getD_some, depsOf, List.mem_map, List.mem_filter, Array.mem_toList_iff]
        exact ⟨x, ⟨hx, hb⟩, rfl⟩
      · exact Or.inl (by simpa using hb)

theorem bef_listed {ds : List (List Nat)} {A : Nat → Bool} (hc : ∀ j, A j = true → ∀ e ∈ ds.getD j [], A e = true) {j i : Nat} (b : Bef ds j i) (h : ∀ e ∈ ds.getD j [], A e = true) : A i = true := by
  induction b with
  | one hd hi => exact h _ (by simpa [List.getD_eq_getElem?_getD, hd] using hi)
  | more hd hk b ih =>
    rename_i j k i d
    have hk' := h k (by simpa [List.getD_eq_getElem?_getD, hd] using hk)
    exact ih (hc k hk')

/-- The rest in its order. -/
theorem wp_tail {m : Nat} (ht : ∀ j, j < ops.size → m ≤ j → ∀ i, i < j → Bef (ops.toList.map depsOf) j i) (hb : ∀ j, j < ops.size → ∀ e ∈ (ops.toList.map depsOf).getD j [], e < j) : ∀ (fuel k : Nat) (listed : Array Bool) (a : Act) (w : World), m ≤ k → k ≤ ops.size → ops.size - k ≤ fuel → listed.size = ops.size →
    (∀ j, j < ops.size → (lst listed j = true ↔ j < k)) → wpList P ops R (ops.toList.drop k) a w → wpAny P .any ops R fuel listed a w := by
  intro fuel
  induction fuel with
  | zero =>
    intro k listed a w hm hk hf hs hl h
    have hk2 : k = ops.size := by omega
    subst hk2
    refine ⟨?_, ?_⟩
    · refine List.eq_nil_iff_forall_not_mem.2 fun i hi => ?_
      obtain ⟨h1, h2, _⟩ := (ready_iff hs).1 hi
      rw [(hl i h1).2 h1] at h2; cases h2
    · rw [List.drop_eq_nil_of_le (by simp)] at h
      exact h
  | succ fuel ih =>
    intro k listed a w hm hk hf hs hl h
    have hcl : ∀ j, lst listed j = true → ∀ e ∈ (ops.toList.map depsOf).getD j [], lst listed e = true := by
      intro j hj e he
      by_cases hjn : j < ops.size
      · have hjk := (hl j hjn).1 hj
        have := hb j hjn e he
        exact (hl e (by omega)).2 (by omega)
      · have : (ops.toList.map depsOf).getD j [] = [] := by
          rw [List.getD_eq_getElem?_getD, List.getElem?_eq_none (by simp; omega)]; rfl
        rw [this] at he; cases he
    by_cases hk2 : k = ops.size
    · subst hk2
      have hr : Region.ready .any ops listed = [] := by
        refine List.eq_nil_iff_forall_not_mem.2 fun i hi => ?_
        obtain ⟨h1, h2, _⟩ := (ready_iff hs).1 hi
        rw [(hl i h1).2 h1] at h2; cases h2
      rw [List.drop_eq_nil_of_le (by simp)] at h
      exact ⟨fun _ => h, fun i hi => by rw [hr] at hi; cases hi⟩
    · have hkn : k < ops.size := by omega
      have hdrop : ops.toList.drop k = ops[k] :: ops.toList.drop (k + 1) := by
        rw [List.drop_eq_getElem_cons (by simpa using hkn)]; simp
      have hkr : k ∈ Region.ready .any ops listed := by
        refine (ready_iff hs).2 ⟨hkn, ?_, ?_⟩
        · cases hx : lst listed k with
          | false => rfl
          | true => have := (hl k hkn).1 hx; omega
        · intro e he
          have := hb k hkn e he
          exact (hl e (by omega)).2 this
      refine ⟨fun hr => (by rw [hr] at hkr; cases hkr), fun i hi => ?_⟩
      obtain ⟨h1, h2, h3⟩ := (ready_iff hs).1 hi
      have hik : i = k := by
        have h4 : ¬ i < k := fun hc => by rw [(hl i h1).2 hc] at h2; cases h2
        by_cases h5 : k < i
        · have := bef_listed hcl (ht i h1 (by omega) k h5) h3
          have := (hl k hkn).1 this
          omega
        · omega
      subst hik
      rw [hdrop] at h
      have ho : ops[i]? = some ops[i] := Array.getElem?_eq_getElem hkn
      have key : ∀ a w, wpList P ops R (ops.toList.drop (i + 1)) a w → wpAny P .any ops R fuel (listed.setIfInBounds i true) a w := by
        intro a w h
        refine ih (i + 1) _ a w (by omega) (by omega) (by omega) (by simpa using hs) ?_ h
        intro j hj
        rw [lst_set (by omega)]
        have := hl j hj
        simp only [Bool.or_eq_true, decide_eq_true_eq]
        rw [this]
        omega
      unfold wpOp
      rw [ho]
      simp only
      unfold wpList at h
      split
      · rename_i hw
        rw [if_pos hw] at h
        exact h.imp (Oper.wp_mono key) id
      · rename_i hw
        rw [if_neg hw] at h
        exact key _ _ h

theorem apartO_spec {x y : O} (h : apartO x y = true) : (∀ d, x.d = some d → d ∉ oT y ∧ y.d ≠ some d) ∧ (∀ d, y.d = some d → d ∉ oT x) := by
  unfold apartO at h
  simp only [Bool.and_eq_true] at h
  constructor
  · intro d hd
    rw [hd] at h
    have h1 := h.1
    simp only [Bool.and_eq_true, Bool.not_eq_true', List.contains_eq_mem, decide_eq_false_iff_not, beq_eq_false_iff_ne] at h1
    exact h1
  · intro d hd
    rw [hd] at h
    have h2 := h.2
    simpa using h2

theorem w_drw {N : Nat} {σ : Sl} {H : List Own} {S : Seal} {Q : Qst} {L ws : List O} {ds : List (List Nat)} (hmix : P.follows .mixedOrders = true) (l : List (O × E)) (hL : L = l.map (·.1) ++ ws) (hst : statB L l.length ds = true)
    (hdl : DL P H S l σ) (hfin : finK S l σ H fun σ' H' => ∀ all, T P N all ws σ' H' S (Q .nrm)) : W P N (.drw L ds) σ H S Q := by
  intro code hc ts0 w0 R hσ hN hH hR
  cases code <;> (try simp only [toC] at hc) <;> (try cases hc; done)
  case region id ops dr =>
    cases dr with
    | false => simp [toC] at hc
    | true =>
    simp only [toC] at hc
    injection hc with e1 e2
    have st := stat_of hst
    have hlen : L.length = ops.size := by rw [← e1]; simp
    have hml : l.length + ws.length = ops.size := by rw [← hlen, hL]; simp
    rw [← e2] at st
    have hat : ∀ k o e, l[k]? = some (o, e) → ∃ p, ops[k]? = some p ∧ toO P N ops p = o ∧ L.getD k ⟨none, .fail, none⟩ = o := by
      intro k o e hk
      have h1 : L[k]? = some o := by rw [hL, List.getElem?_append_left (by simpa using (List.getElem?_eq_some_iff.1 hk).1)]; simp [hk]
      have h2 := h1
      rw [← e1] at h2
      simp only [List.getElem?_map, Array.getElem?_toList, Option.map_eq_some_iff] at h2
      obtain ⟨p, hp1, hp2⟩ := h2
      exact ⟨p, hp1, hp2, by rw [List.getD_eq_getElem?_getD, h1]; rfl⟩
    have hdrop : (ops.toList.drop l.length).map (toO P N ops) = ws := by
      rw [List.map_drop, e1, hL, List.drop_left' (by simp)]
    have done : ∀ (fuel : Nat) (listed : Array Bool) (ts : Array Value) (w : World) (β : Nat → Nat), listed.size = ops.size → (∀ j, lst listed j = true → j < l.length) → (∀ j, j < l.length → lst listed j = true) → ops.size - l.length ≤ fuel → ts.size = N →
        (∀ t v, gb σ l 0 (lst listed) β t = some v → ts[t]? = some v) → HOK (nws l 0 (lst listed) β ++ H) S w → Step H S w0 (nws l 0 (lst listed) β ++ H) S w → wpAny P .any ops R fuel listed ⟨ts, []⟩ w := by
      intro fuel listed ts w β hs hph hall hf htn hsl hhk hstp
      have hn : nws l 0 (lst listed) β = nws l 0 (fun _ => true) β := nws_congr l 0 (fun j _ hj => by rw [hall j (by omega)]) (fun _ _ _ _ => rfl)
      rw [hn] at hhk hstp
      obtain ⟨σ', H', k, g, p⟩ := finK_of hfin hhk
      refine wp_tail (m := l.length) (fun j hj hm i hi => st.tail j (by omega) hm i hi) (fun j hj e he => st.back j (by omega) e he) fuel l.length listed _ w (Nat.le_refl _) (by omega) hf hs (fun j hj => ⟨hph j, hall j⟩) ?_
      refine k ops _ hdrop ts w R ?_ htn (hhk.perm p) ?_
      · intro t v hv
        refine hsl t v ?_
        rw [← hv, g t]
        unfold gb
        rw [lw_congr (A' := fun _ => true) l 0 (fun j o e h1 _ => by rw [hall _ (by have := (List.getElem?_eq_some_iff.1 h1).1; omega)])]
      · intro σ2 H2 S2 ts2 w2 q a1 a2 a3 st2
        exact hR .nrm σ2 H2 S2 ts2 w2 q a1 a2 a3 ((hstp.perm' p).trans st2)
    have key : ∀ (fuel : Nat) (listed : Array Bool) (ts : Array Value) (w : World) (β : Nat → Nat), listed.size = ops.size → cnt ops.size (lst listed) ≤ fuel → (∀ j, lst listed j = true → j < l.length) →
        (∀ j, lst listed j = true → ∀ e ∈ (ops.toList.map depsOf).getD j [], lst listed e = true) → ts.size = N → (∀ t v, gb σ l 0 (lst listed) β t = some v → ts[t]? = some v) →
        HOK (nws l 0 (lst listed) β ++ H) S w → Step H S w0 (nws l 0 (lst listed) β ++ H) S w → wpAny P .any ops R fuel listed ⟨ts, []⟩ w := by
      intro fuel
      induction fuel with
      | zero =>
        intro listed ts w β hs hcn hph hcl htn hsl hhk hstp
        have hall := cnt_zero (Nat.le_zero.1 hcn)
        have hge := cnt_ge hph ops.size
        exact done 0 listed ts w β hs hph (fun j hj => hall j (by omega)) (by omega) htn hsl hhk hstp
      | succ fuel ih =>
        intro listed ts w β hs hcn hph hcl htn hsl hhk hstp
        have hge := cnt_ge hph ops.size
        by_cases hall : ∀ j, j < l.length → lst listed j = true
        · exact done (fuel + 1) listed ts w β hs hph hall (by omega) htn hsl hhk hstp
        · obtain ⟨j0, hj0, hj1, hj2⟩ := least l.length hall
          have hr0 : j0 ∈ Region.ready .any ops listed := (ready_iff hs).2 ⟨by omega, hj1, fun e he => hj2 e (st.back j0 (by omega) e he)⟩
          refine ⟨fun hr => (by rw [hr] at hr0; cases hr0), fun i hi => ?_⟩
          obtain ⟨h1, h2, h3⟩ := (ready_iff hs).1 hi
          have him : i < l.length := by
            rcases Nat.lt_or_ge i l.length with hx | hx
            · exact hx
            · have := bef_listed hcl (st.tail i (by omega) hx j0 (by omega)) h3
              rw [this] at hj1; cases hj1
          obtain ⟨o, e, hoe⟩ : ∃ o e, l[i]? = some (o, e) := ⟨(l[i]).1, (l[i]).2, List.getElem?_eq_getElem him⟩
          obtain ⟨p, hp1, hp2, hp3⟩ := hat i o e hoe
          obtain ⟨σ1, hdv, hg1⟩ := DL_at (i := 0) hdl hoe
          have hless : ∀ j o' e', j < i → l[j]? = some (o', e') → lst listed j = true ∨ apartO o' o = true := by
            intro j o' e' hji hj
            obtain ⟨_, _, _, q3⟩ := hat j o' e' hj
            rcases st.ap i (by omega) him j hji with hb | hb
            · exact Or.inl (bef_listed hcl hb h3)
            · rw [q3, hp3] at hb; exact Or.inr hb
          have hmore : ∀ j o' e', i < j → l[j]? = some (o', e') → lst listed j = true → apartO o o' = true := by
            intro j o' e' hij hj hlj
            obtain ⟨_, _, _, q3⟩ := hat j o' e' hj
            have hjl := (List.getElem?_eq_some_iff.1 hj).1
            rcases st.ap j (by omega) hjl i hij with hb | hb
            · have := bef_listed hcl hb (hcl j hlj)
              rw [this] at h2; cases h2
            · rw [q3, hp3] at hb; exact hb
          have hagr : ∀ t, t ∈ oT o → lw l 0 (lst listed) t = lw l 0 (fun j => decide (j < 0 + i)) t := by
            intro t ht
            refine lw_congr l 0 ?_
            intro j o' e' hj hd
            simp only [Nat.zero_add]
            rcases Nat.lt_trichotomy j i with hc | hc | hc
            · rcases hless j o' e' hc hj with hb | hb
              · rw [hb]; simp [hc]
              · exact absurd ht ((apartO_spec hb).1 t hd).1
            · subst hc; rw [h2]; simp
            · have : lst listed j = false := by
                cases hx : lst listed j with
                | false => rfl
                | true => exact absurd ht ((apartO_spec (hmore j o' e' hc hj hx)).2 t hd)
              rw [this]; simp; omega
          have hσ2 : SlOK (keep (oT o) σ1) ts := by
            intro t v hv
            by_cases ht : t ∈ oT o
            · rw [keep_get ht, hg1 t] at hv
              refine hsl t v ?_
              unfold gv at hv
              unfold gb
              rw [hagr t ht]
              cases hx : lw l 0 (fun j => decide (j < 0 + i)) t with
              | none => rw [hx] at hv; exact hv
              | some q =>
                obtain ⟨q1, q2⟩ := q
                rw [hx] at hv
                cases q2 with
                | v x => exact hv
                | a cs mk => cases hv
            · exfalso
              have : ∀ (L : List Nat) v, gt (keep L σ1) t = some v → t ∈ L := by
                intro L
                induction L with
                | nil => intro v h; cases h
                | cons y L ih =>
                  intro v h
                  unfold keep at h ih
                  cases hy : gt σ1 y with
                  | none => simp only [List.filterMap_cons, hy, Option.map_none] at h; exact List.mem_cons_of_mem _ (ih v h)
                  | some u =>
                    simp only [List.filterMap_cons, hy, Option.map_some, gt] at h
                    split at h
                    · rename_i e; subst e; simp
                    · exact List.mem_cons_of_mem _ (ih v h)
              exact ht (this _ _ hv)
          have hdv2 := hdv.agr (σ' := keep (oT o) σ1) (fun t ht => keep_get ht)
          have hkf : o.k ≠ .fail := by
            intro hf
            cases hdv with
            | quiet hw h => rw [hf] at h; simp [qv] at h
            | quietH hw hf2 h => exact hf2 hf
            | skip hw h => exact h hf
            | new hw h => rw [hf] at h; cases h
            | box hw h hv => rw [hf] at h; cases h
            | bsl hw h hv hl => rw [hf] at h; cases h
            | call hw h hv hc => rw [hf] at h; cases h
            | ld1 hw h hx hr => rw [hf] at h; cases h
            | ldn hw h hx hr => rw [hf] at h; cases h
            | ldnH hw h hx hr => rw [hf] at h; cases h
            | eqt hw h hx hy hr hv => rw [hf] at h; cases h
            | eqp hw h hx hy hr hv => rw [hf] at h; cases h
            | callr hw h hv hp hc => rw [hf] at h; cases h
            | clor hw h hf2 hok hv hp hc => rw [hf] at h; cases h
          obtain ⟨hk1, hk2⟩ := toO_k (by rw [hp2]; exact hkf)
          have hpd : p.dst = o.d := by rw [← hp2]; exact toO_d.symm
          have next : ∀ v F1 w1, (match e with
              | .v x => v = x ∧ F1 = nws l 0 (lst listed) β
              | .a cs mk => v = mk w.heap.size ∧ F1 = ⟨w.heap.size, cs, cs.length⟩ :: nws l 0 (lst listed) β) → HOK (F1 ++ H) S w1 → Step (nws l 0 (lst listed) β ++ H) S w (F1 ++ H) S w1 →
              wpAny P .any ops R fuel (listed.setIfInBounds i true) (Act.put ⟨ts, []⟩ o.d v) w1 := by
            intro v F1 w1 hm hh hs1
            have hset : lst (listed.setIfInBounds i true) = fun j => lst listed j || decide (j = 0 + i) := by
              funext j; rw [lst_set (by omega)]; simp
            have hperm : (nws l 0 (lst (listed.setIfInBounds i true)) (fun j => if j = 0 + i then w.heap.size else β j)).Perm F1 := by
              rw [hset]
              refine (nws_set l 0 i o e hoe (by simpa using h2)).trans ?_
              cases e with
              | v x => obtain ⟨_, rfl⟩ := hm; exact List.Perm.refl _
              | a cs mk => obtain ⟨_, rfl⟩ := hm; exact List.Perm.refl _
            have hsub : ∀ j, lst listed j = true → lst (listed.setIfInBounds i true) j = true := fun j hj => by rw [hset]; simp [hj]
            rw [put_form]
            refine ih _ _ w1 (fun j => if j = 0 + i then w.heap.size else β j) (by simpa using hs) ?_ ?_ ?_ (by rw [put_size]; exact htn) ?_ (hh.perm ((hperm.symm).append_right H)) ((hstp.trans hs1).perm' ((hperm.symm).append_right H))
            · have := cnt_lt hsub h2 (by rw [hset]; simp) ops.size h1
              omega
            · intro j hj
              rw [hset] at hj
              simp only [Nat.zero_add, Bool.or_eq_true, decide_eq_true_eq] at hj
              rcases hj with hj | rfl
              · exact hph j hj
              · exact him
            · intro j hj e' he'
              rw [hset] at hj
              simp only [Nat.zero_add, Bool.or_eq_true, decide_eq_true_eq] at hj
              rcases hj with hj | rfl
              · exact hsub _ (hcl j hj e' he')
              · exact hsub _ (h3 e' he')
            · intro t v' hv'
              by_cases hd : o.d = some t
              · have hl := lw_last (A := lst (listed.setIfInBounds i true)) (t := t) l 0 i o e hoe hd (by rw [hset]; simp) (by
                  intro j o' e' hij hj hlj hd'
                  have hlj' : lst listed j = true := by
                    rw [hset] at hlj
                    simp only [Nat.zero_add, Bool.or_eq_true, decide_eq_true_eq] at hlj
                    rcases hlj with hx | hx
                    · exact hx
                    · omega
                  exact ((apartO_spec (hmore j o' e' hij hj hlj')).1 t hd).2 hd')
                have htlt : t < ts.size := by
                  rw [htn]; exact hk2 t (by rw [hpd]; exact hd)
                have hput : (Act.put ⟨ts, []⟩ o.d v).tmps[t]? = some v := by rw [hd]; simp [Act.put, htlt]
                rw [hput]
                unfold gb at hv'
                rw [hl] at hv'
                cases e with
                | v x => obtain ⟨rfl, _⟩ := hm; exact hv'
                | a cs mk =>
                  obtain ⟨rfl, _⟩ := hm
                  simp only [Nat.zero_add, if_true] at hv'
                  exact hv'
              · have hput : (Act.put ⟨ts, []⟩ o.d v).tmps[t]? = ts[t]? := by
                  cases ho : o.d with
                  | none => rfl
                  | some d => simp only [Act.put]; rw [Array.getElem?_setIfInBounds]; rw [if_neg (fun hc => hd (by rw [ho, hc]))]
                rw [hput]
                refine hsl t v' ?_
                rw [← hv']
                unfold gb
                have hl : lw l 0 (lst (listed.setIfInBounds i true)) t = lw l 0 (lst listed) t := by
                  refine lw_congr l 0 ?_
                  intro j o' e' hj hd'
                  rw [hset]
                  by_cases hji : j = i
                  · subst hji
                    rw [hoe] at hj
                    simp only [Option.some.injEq, Prod.mk.injEq] at hj
                    obtain ⟨rfl, rfl⟩ := hj
                    exact absurd hd' hd
                  · simp [hji]
                rw [hl]
                cases hx : lw l 0 (lst listed) t with
                | none => rfl
                | some q =>
                  obtain ⟨q1, q2⟩ := q
                  cases q2 with
                  | v x => rfl
                  | a cs mk =>
                    obtain ⟨k, o', g1, g2, g3, g4⟩ := lw_some l 0 hx
                    have : q1 ≠ i := fun hc => by rw [hc, h2] at g4; cases g4
                    simp [this]
          unfold wpOp
          rw [hp1]
          simp only
          cases hw : wtd (keep (oT o) σ1) o.g with
          | none => cases hdv2 <;> (rename_i hwx; first | (rw [hw] at hwx; cases hwx; done) | skip) <;> simp_all
          | some b =>
            have hwant := toO_w (P := P) (N := N) (all := ops) (o := p) hσ2 (b := b) (by rw [hp2]; exact hw) (by rw [hp2]; exact hkf)
            cases b with
            | true =>
              rw [if_pos hwant]
              refine Or.inl ?_
              exact dv_run hdv2 hw (by rw [← hk1, hp2]) hpd hσ2 hhk next
            | false =>
              rw [if_neg (by rw [hwant]; simp)]
              rw [hpd]
              have he : e = .v undef := by
                cases hdv2 with
                | quiet hwx h => rw [hw] at hwx; cases hwx
                | quietH hwx hf2 h => rw [hw] at hwx; cases hwx
                | skip hwx h => rfl
                | new hwx h => rw [hw] at hwx; cases hwx
                | box hwx h hv => rw [hw] at hwx; cases hwx
                | bsl hwx h hv hl => rw [hw] at hwx; cases hwx
                | call hwx h hv hc => rw [hw] at hwx; cases hwx
                | ld1 hwx h hx hr => rw [hw] at hwx; cases hwx
                | ldn hwx h hx hr => rw [hw] at hwx; cases hwx
                | ldnH hwx h hx hr => rw [hw] at hwx; cases hwx
                | eqt hwx h hx hy hr hv => rw [hw] at hwx; cases hwx
                | eqp hwx h hx hy hr hv => rw [hw] at hwx; cases hwx
                | callr hwx h hv hp hc => rw [hw] at hwx; cases hwx
                | clor hwx h hf2 hok hv hp hc => rw [hw] at hwx; cases hwx
              refine next undef (nws l 0 (lst listed) β) w ?_ hhk (Step.refl _ _ _)
              subst he
              exact ⟨rfl, rfl⟩
    refine wp_region_any hmix ?_
    have hlf : lst (Array.replicate ops.size false) = fun _ => false := by
      funext j
      unfold lst
      simp only [Array.getD_eq_getD_getElem?, Array.getElem?_replicate]
      split <;> rfl
    have hn0 : nws l 0 (fun _ => false) (fun _ => 0) = [] := by
      have : ∀ (l : List (O × E)) (i : Nat), nws l i (fun _ => false) (fun _ => 0) = [] := by
        intro l
        induction l with
        | nil => intro i; rfl
        | cons x r ih => intro i; obtain ⟨a, b⟩ := x; simp [nws, ih]
      exact this l 0
    refine key ops.size (Array.replicate ops.size false) ts0 _ (fun _ => 0) (by simp) ?_ ?_ ?_ hN ?_ ?_ ?_
    · have : ∀ n (A : Nat → Bool), cnt n A ≤ n := by
        intro n A
        induction n with
        | zero => exact Nat.le_refl _
        | succ n ih => simp only [cnt]; split <;> omega
      exact this _ _
    · intro j hj; rw [hlf] at hj; cases hj
    · intro j hj; rw [hlf] at hj; cases hj
    · intro t v hv
      rw [hlf] at hv
      unfold gb at hv
      rw [lw_none l 0 (fun j o e _ h => by cases h)] at hv
      exact hσ t v hv
    · rw [hlf, hn0]; exact hH.drew
    · rw [hlf, hn0]; exact (Step.refl H S w0).drew'
end
end Go.Proofs.YtobjaddicodiaaaDoorE
end
