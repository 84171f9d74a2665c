/- A logic of owned and sealed memory over the machine's steps. Own work of these sessions. -/
import Derived.Test.YtobjaddicodiaaaDoorEa
import Derived.Below
import Derived.Laws.MakeOwn
import Derived.Maps.AppendAt
import Derived.ArgAppend
import Derived.ChangeArms
import Derived.WideShapes
import Derived.LaidEqlPtr
import Derived.LaidLaws
import Derived.ChangeBears2
import Derived.KernelRfl
section
/- The rules, as a proof uses them. -/
namespace Go.Proofs.YtobjaddicodiaaaDoorE
open Go Go.RowKit
set_option linter.unusedVariables false
set_option linter.unusedSimpArgs false

section
variable {P : Program} {N : Nat} {all : Array Oper} {r : List O} {o : O} {σ : Sl} {H : List Own} {S : Seal} {Q : Pst}

theorem DV.nf {e : E} (h : DV P H S σ o e) : o.k ≠ .fail := by
  intro hf
  cases h with
  | quiet hw h => rw [hf] at h; simp [qv] at h
  | quietH hw hf2 h => exact hf2 hf
  | skip hw h => exact h hf
  | new hw h => rw [hf] at h; cases h
  | box hw h hv => rw [hf] at h; cases h
  | bsl hw h hv hl => rw [hf] at h; cases h
  | ld1 hw h hx hr => rw [hf] at h; cases h
  | ldn hw h hx hr => rw [hf] at h; cases h
  | ldnH hw h hx hr => rw [hf] at h; cases h
  | eqt hw h hx hy hr hv => rw [hf] at h; cases h
  | eqp hw h hx hy hr hv => rw [hf] at h; cases h
  | callr hw h hv hp hc => rw [hf] at h; cases h
  | clor hw h hf2 hok hv hp hc => rw [hf] at h; cases h
  | call hw h hv hc => rw [hf] at h; cases h

def dvT (P : Program) (N : Nat) (all : Array Oper) (r : List O) (σ : Sl) (o : O) (H : List Own) (S : Seal) (Q : Pst) : E → Prop
  | .v x => T P N all r (pt σ o.d x) H S Q
  | .a cs mk => ∀ b, Fr b H → S b = none → T P N all r (pt σ o.d (mk b)) (⟨some b, cs, cs.length⟩ :: H) S Q
theorem t_dv {e : E} (d : DV P H S σ o e) (h : dvT P N all r σ o H S Q e) : T P N all (o :: r) σ H S Q := by
  cases hw : wtd σ o.g with
  | none => cases d <;> simp_all
  | some b =>
    cases b with
    | false =>
      have he : e = .v undef := by cases d <;> simp_all
      subst he
      exact t_skip d.nf hw h
    | true =>
      refine t_op d.nf hw ?_
      intro p ts w K R hk hd hlt hσ hH hK
      refine dv_run (F := []) d hw hk hd hσ hH ?_
      intro v F1 w1 hm hh hs
      obtain ⟨f1, f2⟩ := hH.fresh (Nat.le_refl w.heap.size)
      cases e with
      | v x =>
        obtain ⟨rfl, rfl⟩ := hm
        exact hK v (pt σ o.d v) H S w1 (hσ.pt (fun t ht => hlt t (by rw [hd]; exact ht)) []) hh hs h
      | a cs mk =>
        obtain ⟨rfl, rfl⟩ := hm
        exact hK _ (pt σ o.d (mk w.heap.size)) _ S w1 (hσ.pt (fun t ht => hlt t (by rw [hd]; exact ht)) []) hh hs (h _ (Fr.of f1) f2)
theorem t_v {x : Value} (d : DV P H S σ o (.v x)) (h : T P N all r (pt σ o.d x) H S Q) : T P N all (o :: r) σ H S Q := t_dv d h
theorem t_a {cs : List Value} {mk : Nat → Value} (d : DV P H S σ o (.a cs mk)) (h : ∀ b, Fr b H → S b = none → T P N all r (pt σ o.d (mk b)) (⟨some b, cs, cs.length⟩ :: H) S Q) : T P N all (o :: r) σ H S Q := t_dv d h

theorem t_vs {H' : List Own} {S' : Seal} {ops : List O} (v : VS H S H' S') (h : T P N all ops σ H' S' Q) : T P N all ops σ H S Q := by
  intro L hL ts w R hσ hN hH hR
  obtain ⟨h1, h2⟩ := v w hH
  exact h L hL ts w R hσ hN h1 fun σ' H2 S2 ts' w' q a1 a2 a3 st => hR σ' H2 S2 ts' w' q a1 a2 a3 (h2.trans st)
theorem t_keep (L : List Nat) {σ' : Sl} {ops : List O} (e : keep L σ = σ') (h : T P N all ops σ' H S Q) : T P N all ops σ H S Q := by
  subst e
  exact fun l hL ts w R hσ hN hH hR => h l hL ts w R (hσ.keep L) hN hH hR
theorem w_kp {c : C} {Q : Qst} (L : List Nat) {σ' : Sl} (e : keep L σ = σ') (h : W P N c σ' H S Q) : W P N c σ H S Q := by
  subst e; exact w_keep L h

/-- So many quiet operations at once. -/
def qz (H : List Own) (S : Seal) : Nat → List O → Sl → Option Sl
  | 0, _, σ => some σ
  | _ + 1, [], _ => none
  | n + 1, o :: r, σ => match wtd σ o.g with
    | some true => match qv H S σ o.k with
      | some v => qz H S n r (pt σ o.d v)
      | none => none
    | some false => if isFail o.k then none else qz H S n r (pt σ o.d undef)
    | none => none
def kpo (L : List Nat) : Option Sl → Option Sl
  | none => none
  | some σ => some (keep L σ)
/-- A store into an owned block, by its place. -/
theorem t_sti (i : Nat) {b m n k : Nat} {x y : Operand} {v : Value} {cs0 cs : List Value} {H' : List Own} (hk : o.k = .st n x y) (hw : wtd σ o.g = some true) (hx : ev σ x = some (.pointer (some ⟨b, k, none⟩))) (hy : ev σ y = some v) (he : H[i]? = some ⟨some b, cs0, m⟩)
    (hl : (cl v).length = n) (h1 : (cl v).all (·.oneCell') = true) (hs : stl cs0 k (cl v) = some cs) (hH' : H.set i ⟨some b, cs, m⟩ = H') (h : T P N all r (pt σ o.d undef) H' S Q) : T P N all (o :: r) σ H S Q := by
  subst hH'
  obtain ⟨e, heb, rfl, rfl, hee⟩ : ∃ e : Own, e.b = some b ∧ e.cs = cs0 ∧ e.n = m ∧ (⟨some b, cs0, m⟩ : Own) = e := ⟨⟨some b, cs0, m⟩, rfl, rfl, rfl, rfl⟩
  rw [hee] at he
  rw [← heb] at h
  obtain ⟨A, B, rfl, hi⟩ : ∃ A B, H = A ++ e :: B ∧ i = A.length := by
    have hlt := (List.getElem?_eq_some_iff.1 he).1
    refine ⟨H.take i, H.drop (i + 1), ?_, by simp; omega⟩
    have h2 : H[i] = e := (List.getElem?_eq_some_iff.1 he).2
    rw [← h2, ← List.drop_eq_getElem_cons hlt, List.take_append_drop]
  subst hi
  have hset : (A ++ e :: B).set A.length ⟨e.b, cs, e.n⟩ = A ++ ⟨e.b, cs, e.n⟩ :: B := by simp
  rw [hset] at h
  refine t_vs (H' := e :: (A ++ B)) (S' := S) (VS.perm List.perm_middle) ?_
  have hst : stH (e :: (A ++ B)) b k (cl v) = some (⟨e.b, cs, e.n⟩ :: (A ++ B)) := by unfold stH; rw [if_pos heb, hs]
  refine t_st hk hw hx hy hl h1 hst ?_
  exact t_vs (VS.perm List.perm_middle.symm) h

/-! ### regions that draw -/
inductive DI (P : Program) (H : List Own) (S : Seal) : List O → Sl → List E → Prop
  | nil {σ : Sl} : DI P H S [] σ []
  | cons {o : O} {r : List O} {σ : Sl} {e : E} {es : List E} (d : DV P H S σ o e) (h : DI P H S r (upd σ o e) es) : DI P H S (o :: r) σ (e :: es)
def qvs (S : Seal) : Nat → List O → Sl → Option (List Value × Sl)
  | 0, _, σ => some ([], σ)
  | _ + 1, [], _ => none
  | n + 1, o :: r, σ => match wtd σ o.g with
    | some true => match qv [] S σ o.k with
      | some v => match qvs S n r (pt σ o.d v) with
        | some (vs, σ') => some (v :: vs, σ')
        | none => none
      | none => none
    | some false => if isFail o.k then none else match qvs S n r (pt σ o.d undef) with
      | some (vs, σ') => some (undef :: vs, σ')
      | none => none
    | none => none
theorem qv_nil {H : List Own} {S : Seal} {σ : Sl} {k : K} {v : Value} (h : qv [] S σ k = some v) : (∃ n x, k = .ld n x) ∨ qv H S σ k = some v := by
  cases k
  case ld n x => exact Or.inl ⟨n, x, rfl⟩
  case fld n f x => cases n <;> exact Or.inr h
  case ixv n z m x i => cases n <;> exact Or.inr h
  all_goals exact Or.inr h
theorem dv_quiet {v : Value} (hw : wtd σ o.g = some true) (h : qv [] S σ o.k = some v) : DV P H S σ o (.v v) := by
  rcases qv_nil (H := H) h with ⟨n, x, hk⟩ | h2
  · rw [hk] at h
    cases n with
    | none =>
      simp only [qv] at h
      split at h
      · rename_i b k hx
        simp only [rd1] at h
        split at h
        · rename_i l hl; exact .ld1 hw hk hx (.sealed hl h)
        · cases h
      · cases h
    | some n =>
      simp only [qv] at h
      split at h
      · rename_i b k hx
        simp only [rdn] at h
        split at h
        · rename_i vs hvs
          split at hvs
          · rename_i l hl
            obtain rfl := Option.some.inj h
            exact .ldn hw hk hx (.sealed hl hvs)
          · cases hvs
        · cases h
      · cases h
  · exact .quiet hw h2
theorem DI.dl : ∀ {ops : List O} {σ : Sl} {es : List E}, DI P H S ops σ es → DL P H S (ops.zip es) σ ∧ ops.length = es.length
  | _, _, _, .nil => ⟨trivial, rfl⟩
  | _, _, _, .cons d h => by
    obtain ⟨h1, h2⟩ := h.dl
    exact ⟨⟨d, h1⟩, by simp [h2]⟩
theorem w_drwE {Q : Qst} {L : List O} {ds : List (List Nat)} (hmix : P.follows .mixedOrders = true) (m : Nat) (es : List E) (hst : statB L m ds = true) (hdi : DI P H S (L.take m) σ es)
    (hfin : finK S ((L.take m).zip es) σ H fun σ' H' => ∀ all, T P N all (L.drop m) σ' H' S (Q .nrm)) : W P N (.drw L ds) σ H S Q := by
  obtain ⟨h1, h2⟩ := hdi.dl
  have hm : ((L.take m).zip es).length = (L.take m).length := by simp [h2]
  by_cases hml : m ≤ L.length
  · have hlen : ((L.take m).zip es).length = m := by rw [hm]; simp; omega
    refine w_drw hmix ((L.take m).zip es) (ws := L.drop m) ?_ (by rw [hlen]; exact hst) h1 hfin
    rw [List.map_fst_zip (by omega), List.take_append_drop]
  · have hlen : ((L.take m).zip es).length = L.length := by rw [hm]; simp; omega
    have hst2 : statB L L.length ds = true := by
      unfold statB at hst ⊢
      simp only [List.all_eq_true, List.mem_range, Bool.and_eq_true, Bool.or_eq_true, decide_eq_true_eq] at hst ⊢
      intro j hj
      obtain ⟨a, b⟩ := hst j hj
      exact ⟨a, fun i hi => (b i hi).imp id (fun c => ⟨hj, c.2⟩)⟩
    refine w_drw hmix ((L.take m).zip es) (ws := L.drop m) ?_ (by rw [hlen]; exact hst2) h1 hfin
    rw [List.map_fst_zip (by omega), List.take_append_drop]
def fq : Nat → List (O × E) → Sl → Option Sl
  | 0, _, σ => some σ
  | n + 1, (o, .v x) :: r, σ => fq n r (pt σ o.d x)
  | _ + 1, _, _ => none
theorem fk_q (n : Nat) (L : List Nat) {l : List (O × E)} {σ' : Sl} {K : Sl → List Own → Prop} (hK : ∀ σ1 σ2 H1, (∀ t v, gt σ2 t = some v → gt σ1 t = some v) → K σ2 H1 → K σ1 H1) (e : kpo L (fq n l σ) = some σ') (h : finK S (l.drop n) σ' H K) : finK S l σ H K := by
  have mono : ∀ (l : List (O × E)) (σ1 σ2 : Sl) (H : List Own), (∀ t v, gt σ2 t = some v → gt σ1 t = some v) → finK S l σ2 H K → finK S l σ1 H K := by
    intro l
    induction l with
    | nil => intro σ1 σ2 H hs h; exact hK _ _ _ hs h
    | cons x l ih =>
      obtain ⟨o, e⟩ := x
      have hp : ∀ (σ1 σ2 : Sl) (v : Value), (∀ t v, gt σ2 t = some v → gt σ1 t = some v) → ∀ t u, gt (pt σ2 o.d v) t = some u → gt (pt σ1 o.d v) t = some u := by
        intro σ1 σ2 v hs t u
        cases o.d with
        | none => exact hs t u
        | some d =>
          simp only [pt, gt]
          split
          · exact id
          · exact hs t u
      intro σ1 σ2 H hs h
      cases e with
      | v x => exact ih _ _ H (hp σ1 σ2 x hs) h
      | a cs mk => exact fun b f s => ih _ _ _ (hp σ1 σ2 (mk b) hs) (h b f s)
  cases hq : fq n l σ with
  | none => rw [hq] at e; cases e
  | some σ1 =>
    rw [hq] at e
    simp only [kpo, Option.some.injEq] at e
    have h2 : finK S (l.drop n) σ1 H K := by
      refine mono _ σ1 σ' H ?_ h
      intro t v hv
      rw [← e] at hv
      by_cases ht : t ∈ L
      · rwa [keep_get ht] at hv
      · exfalso
        have : ∀ (L : List Nat) v, gt (keep L σ1) t = some v → t ∈ L := by
          intro L
          induction L with
          | nil => intro v h; cases h
          | cons y L ih =>
            intro v h
            unfold keep at h ih
            cases hy : gt σ1 y with
            | none => simp only [List.filterMap_cons, hy, Option.map_none] at h; exact List.mem_cons_of_mem _ (ih v h)
            | some u =>
              simp only [List.filterMap_cons, hy, Option.map_some, gt] at h
              split at h
              · rename_i e; subst e; simp
              · exact List.mem_cons_of_mem _ (ih v h)
        exact ht (this _ _ hv)
    clear h e
    induction n generalizing l σ with
    | zero => simp only [fq, Option.some.injEq] at hq; subst hq; exact h2
    | succ n ih =>
      cases l with
      | nil => simp [fq] at hq
      | cons x l =>
        obtain ⟨o, e⟩ := x
        cases e with
        | v x => exact ih (l := l) (σ := pt σ o.d x) hq h2
        | a cs mk => simp [fq] at hq
theorem fk_nil {K : Sl → List Own → Prop} (h : K σ H) : finK S [] σ H K := h
theorem t_more {ops : List O} : ∀ σ1 σ2 (H1 : List Own), (∀ t v, gt σ2 t = some v → gt σ1 t = some v) → (∀ all, T P N all ops σ2 H1 S Q) → ∀ all, T P N all ops σ1 H1 S Q :=
  fun σ1 σ2 H1 hs h all l hL ts w R hσ hN hH hR => h all l hL ts w R (fun t v g => hσ t v (hs t v g)) hN hH hR

def pts : Nat → List O → List E → Sl → Sl
  | n + 1, o :: r, .v v :: es, σ => pts n r es (pt σ o.d v)
  | _, _, _, σ => σ
/-- So many quiet operations come to just these values. -/
def qw (S : Seal) : Nat → List O → Sl → List E → Option (List Value)
  | 0, _, _, _ => some []
  | n + 1, o :: r, σ, .v x :: es => match wtd σ o.g with
    | some true => match qv [] S σ o.k with
      | some v => match qw S n r (pt σ o.d x) es with
        | some vs => some (v :: vs)
        | none => none
      | none => none
    | some false => if isFail o.k then none else match qw S n r (pt σ o.d x) es with
      | some vs => some (undef :: vs)
      | none => none
    | none => none
  | _, _, _, _ => none
def evals : Nat → List E → Option (List Value)
  | 0, _ => some []
  | n + 1, .v v :: es => match evals n es with
    | some vs => some (v :: vs)
    | none => none
  | _, _ => none
theorem DI.sq : ∀ (n : Nat) {ops : List O} {σ : Sl} {es : List E}, qw S n ops σ es = evals n es → (evals n es).isSome = true → DI P H S (ops.drop n) (pts n ops es σ) (es.drop n) → DI P H S ops σ es
  | 0, ops, σ, es, _, _, h => by simpa [pts] using h
  | n + 1, ops, σ, es, e, h0, h => by
    cases es with
    | nil => simp [evals] at h0
    | cons x es =>
      cases x with
      | a cs mk => simp [evals] at h0
      | v x =>
        cases ops with
        | nil => rw [← e] at h0; simp [qw] at h0
        | cons o l =>
          simp only [qw, evals] at e
          simp only [evals] at h0
          cases hev : evals n es with
          | none => rw [hev] at h0; simp at h0
          | some vs =>
            rw [hev] at e
            simp only at e
            split at e
            · rename_i hw
              split at e
              · rename_i v hv
                split at e
                · rename_i vs' h1
                  simp only [Option.some.injEq, List.cons.injEq] at e
                  obtain ⟨rfl, rfl⟩ := e
                  exact .cons (dv_quiet hw hv) (DI.sq n (h1.trans hev.symm) (by rw [hev]; rfl) h)
                · cases e
              · cases e
            · rename_i hw
              split at e
              · cases e
              · rename_i hf
                split at e
                · rename_i vs' h1
                  simp only [Option.some.injEq, List.cons.injEq] at e
                  obtain ⟨rfl, rfl⟩ := e
                  exact .cons (.skip hw (fun hk => by rw [hk] at hf; exact hf rfl)) (DI.sq n (h1.trans hev.symm) (by rw [hev]; rfl) h)
                · cases e
            · cases e

/-! ### values behind a test -/
theorem qv_shl {x y : Operand} {k k' : IntKind} {a b : Int} (hx : ev σ x = some (.int k a)) (hy : ev σ y = some (.int k' b)) (h : ¬ b < 0) : qv H S σ (.bin .shl x y) = some (.int k (k.wrap (a * 2 ^ (min b.toNat k.bits)))) := by
  simp only [qv, hx, hy, binv, if_neg h]
theorem qv_quo {x y : Operand} {k : IntKind} {a b : Int} (hx : ev σ x = some (.int k a)) (hy : ev σ y = some (.int k b)) (h : ¬ b = 0) : qv H S σ (.bin .quo x y) = some (.int k (k.wrap (a.tdiv b))) := by
  simp only [qv, hx, hy, binv, if_neg h, if_true]
theorem qv_rem {x y : Operand} {k : IntKind} {a b : Int} (hx : ev σ x = some (.int k a)) (hy : ev σ y = some (.int k b)) (h : ¬ b = 0) : qv H S σ (.bin .rem x y) = some (.int k (a.tmod b)) := by
  simp only [qv, hx, hy, binv, if_neg h, if_true]
def mx (a b : Int) : Int := if b > a then b else a
def mn (a b : Int) : Int := if b < a then b else a

/-! ### cuts -/
/-- Where ways meet: from here on by what holds. -/
def mt (L : List Nat) (M : Pst) (Q : Qst) : Qst
  | .nrm => fun σ H S => ∃ H1 S1, VS H S H1 S1 ∧ M (keep L σ) H1 S1
  | x => Q x
theorem w_cut {a b : C} {Q : Qst} (L : List Nat) (M : Pst) (h1 : W P N a σ H S (mt L M Q)) (h2 : ∀ σ H S, M σ H S → W P N b σ H S Q) : W P N (.seq a b) σ H S Q := by
  refine w_seq (w_mono h1 ?_)
  intro x σ' H' S' q
  cases x with
  | nrm => obtain ⟨H1, S1, v, q⟩ := q; exact w_vs v (w_keep L (h2 _ _ _ q))
  | ret => exact q
  | ex i => exact q
theorem keep_sub (L : List Nat) {σ' : Sl} (e : keep L σ = σ') : ∀ t v, gt σ' t = some v → gt σ t = some v := by
  intro t v hv
  rw [← e] at hv
  have : ∀ (L : List Nat) v, gt (keep L σ) t = some v → t ∈ L := by
    intro L
    induction L with
    | nil => intro v h; cases h
    | cons y L ih =>
      intro v h
      unfold keep at h ih
      cases hy : gt σ y with
      | none => simp only [List.filterMap_cons, hy, Option.map_none] at h; exact List.mem_cons_of_mem _ (ih v h)
      | some u =>
        simp only [List.filterMap_cons, hy, Option.map_some, gt] at h
        split at h
        · rename_i e; subst e; simp
        · exact List.mem_cons_of_mem _ (ih v h)
  rwa [keep_get (this L v hv)] at hv

theorem t_end {Q : Pst} (h : Q σ H S) : T P N all [] σ H S Q := t_nil h
theorem VS.mask : ∀ (m : List Bool) {H H' : List Own}, ((m.zip H).filter (·.1)).map (·.2) = H' → m.length = H.length → VS H S H' S := by
  intro m
  induction m with
  | nil => intro H H' h hl; cases H with
    | nil => simp at h; subst h; exact VS.refl _ _
    | cons e H => simp at hl
  | cons b m ih =>
    intro H H' h hl
    cases H with
    | nil => simp at hl
    | cons e H =>
      simp only [List.length_cons, Nat.add_right_cancel_iff] at hl
      cases b with
      | false =>
        simp only [List.zip_cons_cons, List.filter_cons, Bool.false_eq_true, if_false] at h
        exact VS.tail.trans (ih h hl)
      | true =>
        simp only [List.zip_cons_cons, List.filter_cons, if_true, List.map_cons] at h
        subst h
        exact VS.cons (ih rfl hl)
theorem bind_of {α β : Type} {x : Option α} {f : α → Option β} {r : β} (h : x.bind f = some r) : ∃ t, x = some t ∧ f t = some r := by
  cases x with
  | none => cases h
  | some t => exact ⟨t, rfl, h⟩
end
end Go.Proofs.YtobjaddicodiaaaDoorE
end

section
/- A law's call, as its statement asks for it. -/
namespace Go.Proofs.YtobjaddicodiaaaDoorE
open Go Go.RowKit
@[reducible] def wr64 (n : Int) : Int := IntKind.i64.wrap n
@[reducible] def wr32 (n : Int) : Int := IntKind.i32.wrap n
@[reducible] def wr16 (n : Int) : Int := IntKind.i16.wrap n
@[reducible] def wr8 (n : Int) : Int := IntKind.i8.wrap n
@[reducible] def wru64 (n : Int) : Int := IntKind.u64.wrap n
@[reducible] def wru32 (n : Int) : Int := IntKind.u32.wrap n
@[reducible] def wru16 (n : Int) : Int := IntKind.u16.wrap n
@[reducible] def wru8 (n : Int) : Int := IntKind.u8.wrap n
theorem w64 {n : Int} (h0 : -9223372036854775808 ≤ n) (h1 : n ≤ 9223372036854775807) : wr64 n = n := by
  show IntKind.i64.wrap n = n
  rw [IntKind.wrap_i64]
  omega
theorem wu64 {n : Int} (h0 : 0 ≤ n) (h1 : n ≤ 18446744073709551615) : wru64 n = n := by
  show n % 18446744073709551616 = n
  omega
theorem wr64_eq (n : Int) : wr64 n = (n + 9223372036854775808) % 18446744073709551616 - 9223372036854775808 := by
  show IntKind.i64.wrap n = _
  rw [IntKind.wrap_i64]
theorem wru64_eq (n : Int) : wru64 n = n % 18446744073709551616 := rfl
def noS : Seal := ⟨fun _ => none, fun _ => False⟩
theorem hok0 (w : World) : HOK [] noS w := ⟨fun _ h => (by cases h), List.nodup_nil, fun _ h => (by cases h), fun _ _ h => (by cases h), fun _ h => h.elim⟩
theorem law_w {P : Program} {f : FuncId} {args : List Value} {S : Seal} {u : Value} {w : World} (hS : HOK [] S w) (h : Cal P f args [] S fun v H' S' => v = u ∧ H' = [] ∧ S' = S) :
    Calls P f args.toArray w fun e w' => e = .returned u ∧ Below w.heap.size w w' :=
  (h w hS).mono fun e w' ⟨v, H', S', he, ⟨hv, _, _⟩, _, st⟩ => ⟨by rw [he, hv], ⟨st.ext.os, st.ext.tape, st.ext.output, st.ext.size, fun k hk => st.ext.block k hk (by simp)⟩⟩
/-- Some of the blocks, by their places (each place counted in what is left), and the others. -/
def sel : List Nat → List Own → Option (List Own × List Own)
  | [], H => some ([], H)
  | i :: is, H => match H[i]? with
    | some e => match sel is (H.eraseIdx i) with
      | some (A, F) => some (e :: A, F)
      | none => none
    | none => none
theorem ei_perm : ∀ {H : List Own} {i : Nat} {e : Own}, H[i]? = some e → H.Perm (e :: H.eraseIdx i)
  | [], i, e, h => by simp at h
  | a :: H, 0, e, h => by simp at h; subst h; exact List.Perm.refl _
  | a :: H, i + 1, e, h => by
    simp only [List.getElem?_cons_succ] at h
    exact (List.Perm.cons a (ei_perm h)).trans (List.Perm.swap e a _)
theorem sel_perm : ∀ {is : List Nat} {H A F : List Own}, sel is H = some (A, F) → H.Perm (A ++ F)
  | [], H, A, F, h => by simp only [sel, Option.some.injEq, Prod.mk.injEq] at h; obtain ⟨rfl, rfl⟩ := h; exact List.Perm.refl _
  | i :: is, H, A, F, h => by
    unfold sel at h
    split at h
    · rename_i e he
      split at h
      · rename_i A' F' hs
        simp only [Option.some.injEq, Prod.mk.injEq] at h
        obtain ⟨rfl, rfl⟩ := h
        exact (ei_perm he).trans (List.Perm.cons e (sel_perm hs))
      · cases h
    · cases h
def selA (is : List Nat) (H : List Own) : Option (List Own) := match sel is H with
  | some (A, _) => some A
  | none => none
theorem VS.sel (is : List Nat) {H A : List Own} {S : Seal} (h : selA is H = some A) : VS H S A S := by
  unfold selA at h
  split at h
  · rename_i A' F hs
    obtain rfl := Option.some.inj h
    exact (VS.perm (sel_perm hs)).trans VS.drop
  · cases h

theorem toK_mks {P : Program} {op : Op} {z bytes : Nat} {zero : List Value} {l c : Operand} (h : toK P op = .mks z bytes zero l c) :
    ∃ t e i v, op = .makeSlice t l c ∧ P.underlying t = some (.slice e) ∧ P.info? e = some i ∧ i.zero = some v ∧ v.cells.size ≠ 0 ∧ i.size = z ∧ i.bytes = bytes ∧ v.cells.toList = zero := by
  cases op
  case slice t x lo hi mx => cases mx <;> simp only [toK] at h <;> (repeat' split at h) <;> cases h
  case makeSlice t l' c' =>
    simp only [toK] at h
    split at h
    · rename_i e hu
      split at h
      · rename_i i hi
        split at h
        · rename_i v hz
          split at h
          · cases h
          · rename_i hne
            injection h with h1 h2 h3 h4 h5
            subst h4 h5
            exact ⟨t, e, i, v, rfl, hu, hi, hz, fun e => hne (Or.inl e), h1, h2, h3⟩
        · cases h
      · cases h
    · cases h
  all_goals (simp only [toK] at h; (try (repeat' split at h)) <;> cases h)
def madeL (zero : List Value) (n : Nat) : List Value := (List.range n).map fun i => zero.getD (i % zero.length) undef
theorem madeL_eq (a : Array Value) (n : Nat) (h : a.size ≠ 0) : (madeCells a n).toList = madeL a.toList n := by
  unfold madeCells madeL
  simp only [Array.toList_map, Array.toList_range]
  apply List.map_congr_left
  intro i hi
  have hlt : i % a.size < a.size := Nat.mod_lt _ (Nat.pos_of_ne_zero h)
  rw [getElem!_pos a (i % a.size) hlt]
  simp [List.getD_eq_getElem?_getD, hlt]
section
variable {P : Program} {N : Nat} {all : Array Oper} {r : List O} {o : O} {σ : Sl} {H : List Own} {S : Seal} {Q : Pst}
theorem t_mks {z bytes : Nat} {zero cs : List Value} {l c : Operand} {kl kc : IntKind} {n m : Int} (hk : o.k = .mks z bytes zero l c) (hw : wtd σ o.g = some true) (hl : ev σ l = some (.int kl n)) (hc : ev σ c = some (.int kc m)) (h0 : 0 ≤ n) (hle : n ≤ m) (hb : (bytes : Int) * m ≤ 281474976710656) (hm : m ≤ 9223372036854775807)
    (hcs : madeL zero (m.toNat * z) = cs) (h : ∀ b, Fr b H → S b = none → T P N all r (pt σ o.d (.slice (some ⟨b, 0, none⟩) n.toNat m.toNat)) (⟨b, cs, m.toNat * z⟩ :: H) S Q) : T P N all (o :: r) σ H S Q := by
  refine t_op (fun e => by rw [hk] at e; cases e) hw ?_
  intro p ts w K R hkp hd hlt hσ hH hK
  obtain ⟨dst, op, type, pos, after, guard⟩ := p
  rw [hk] at hkp
  obtain ⟨t, e, i, v, rfl, hu, hi, hz, hne, rfl, rfl, rfl⟩ := toK_mks hkp
  obtain ⟨f1, f2⟩ := hH.fresh (Nat.le_refl w.heap.size)
  obtain ⟨a1, a2⟩ := hH.alloc (madeCells v.cells (m.toNat * i.size)) e
  have hr := run_make (P := P) w t e i v hu hi hz kl kc n m h0 hle hb hm
  unfold Oper.wp
  have : (execOp (Act.eval ⟨ts, []⟩) ⟨dst, .makeSlice t l c, type, pos, after, guard⟩).run P w = .ok (.value (.slice (some ⟨w.heap.size, 0, none⟩) n.toNat m.toNat)) (w.alloc (.cells (madeCells v.cells (m.toNat * i.size)) e)) := by
    simp [execOp, ev_ok hσ hl, ev_ok hσ hc, hr]
  rw [this, Oper.upon_value, hd]
  rw [madeL_eq _ _ hne, hcs, size_madeCells] at a1 a2
  exact hK _ _ _ _ _ (hσ.pt (fun t ht => hlt t (by rw [hd]; exact ht)) []) a1 a2 (h _ (Fr.of f1) f2)
end
end Go.Proofs.YtobjaddicodiaaaDoorE
end

section
/- append. -/
namespace Go.Proofs.YtobjaddicodiaaaDoorE
open Go Go.RowKit
set_option linter.unusedVariables false
set_option linter.unusedSimpArgs false

theorem toK_app {P : Program} {op : Op} {e : TypeId} {z bytes : Nat} {zero : List Value} {x y : Operand} (h : toK P op = .app e z bytes zero x y) :
    ∃ (c : Call) (t u : TypeId) (i : TypeInfo) (v : Value), op = .call c ∧ c.callee = .builtin .append ∧ c.argTypes.toList = [t, u] ∧ c.args.toList = [x, y] ∧ P.underlying t = some (.slice e) ∧ P.underlying u = some (.slice e) ∧ P.info? e = some i ∧ i.zero = some v ∧ i.size ≠ 0 ∧ i.size = z ∧ i.bytes = bytes ∧ v.cells.toList = zero := by
  cases op
  case slice t x lo hi mx => cases mx <;> simp only [toK] at h <;> (repeat' split at h) <;> cases h
  case call c =>
    simp only [toK] at h
    split at h
    case h_4 hc =>
      split at h
      · rename_i t u x' y' h1 h2
        split at h
        · rename_i e1 e2 hu1 hu2
          split at h
          · rename_i i hi
            split at h
            · rename_i v hz
              split at h
              · cases h
              · rename_i hne
                split at h
                · rename_i he
                  subst he
                  injection h with g1 g2 g3 g4 g5 g6
                  subst g1 g5 g6
                  exact ⟨c, t, u, i, v, rfl, hc, h1, h2, hu1, hu2, hi, hz, hne, g2, g3, g4⟩
                · cases h
            · cases h
          · cases h
        · cases h
      · cases h
    all_goals ((repeat' split at h) <;> cases h)
  all_goals (simp only [toK] at h; (try (repeat' split at h)) <;> cases h)

theorem app_types {P : Program} {t u ty e : TypeId} (ht : P.underlying t = some (.slice e)) (hu : P.underlying u = some (.slice e)) {i : TypeInfo} (hi : P.info? e = some i) (a b : Value) (w : World) :
    (Builtin.append_ #[t, u] ty #[a, b]).run P w = (Builtin.append_ #[t, t] ty #[a, b]).run P w := by
  cases a <;> simp [Builtin.append_, run_underlying ht, run_underlying hu, sizeOf, typeInfo, hi]

theorem HOK.at0 {b N : Nat} {cs : List Value} {F : List Own} {S : Seal} {w : World} (h : HOK (⟨some b, cs, N⟩ :: F) S w) : (⟨some b, cs, N⟩ : Own).okAt b w := by
  rcases h.own ⟨some b, cs, N⟩ (by simp) with ⟨h0, _⟩ | ⟨b', h0, h⟩
  · cases h0
  · obtain rfl := Option.some.inj h0; exact h
theorem HOK.full {b N : Nat} {cs : List Value} {F : List Own} {S : Seal} {w : World} (h : HOK (⟨some b, cs, N⟩ :: F) S w) : ∃ l : List Value, l.length = N ∧ cs.length ≤ N ∧ l.take cs.length = cs ∧ HOK (⟨some b, l, N⟩ :: F) S w := by
  obtain ⟨arr, T, h1, h2, h3, h4⟩ := h.at0
  simp only at h1 h2 h3 h4
  refine ⟨arr.toList, by simpa using h2, h3, ?_, ⟨?_, by simpa [bs] using h.nd, ?_, h.seal_, fun b' hb' => ⟨fun hm => (h.pl_ b' hb').1 (by simpa [bs] using hm), (h.pl_ b' hb').2⟩⟩⟩
  · apply List.ext_getElem?
    intro i
    rw [List.getElem?_take]
    by_cases hi : i < cs.length
    · rw [if_pos hi]
      have : cs[i]? = some cs[i] := List.getElem?_eq_getElem hi
      rw [this]
      simpa using h4 i _ this
    · rw [if_neg hi, List.getElem?_eq_none (by omega)]
  · intro e he
    rcases List.mem_cons.1 he with rfl | he
    · exact Or.inr ⟨b, rfl, arr, T, h1, h2, by simp [h2], fun i v hv => by simpa using hv⟩
    · exact h.own e (by simp [he])
  · intro e he
    exact h.dis e (by simpa [bs] using he)
theorem HOK.pre {b N : Nat} {l cs : List Value} {F : List Own} {S : Seal} {w : World} (hp : ∀ (i : Nat) (v : Value), cs[i]? = some v → l[i]? = some v) (hl : cs.length ≤ N) (h : HOK (⟨some b, l, N⟩ :: F) S w) : HOK (⟨some b, cs, N⟩ :: F) S w := by
  obtain ⟨arr, T, h1, h2, h3, h4⟩ := h.at0
  simp only at h1 h2 h3 h4
  refine ⟨?_, by simpa [bs] using h.nd, ?_, h.seal_, fun b' hb' => ⟨fun hm => (h.pl_ b' hb').1 (by simpa [bs] using hm), (h.pl_ b' hb').2⟩⟩
  · intro e he
    rcases List.mem_cons.1 he with rfl | he
    · exact Or.inr ⟨b, rfl, arr, T, h1, h2, hl, fun i v hv => h4 i v (hp i v hv)⟩
    · exact h.own e (by simp [he])
  · intro e he
    exact h.dis e (by simpa [bs] using he)
theorem Step.names {H H' H2 H2' : List Own} {S S' : Seal} {w w' : World} (h : Step H S w H' S' w') (e1 : bs H = bs H2) (e2 : ∀ e ∈ H2', ∃ f ∈ H', f.b = e.b) : Step H2 S w H2' S' w' :=
  ⟨by rw [← e1]; exact h.ext, fun b he => by obtain ⟨e, he, hb⟩ := mem_bs.1 he; obtain ⟨f, hf, hf2⟩ := e2 e he; rw [← e1]; exact h.new b (mem_bs.2 ⟨f, hf, by rw [hf2, hb]⟩), by rw [← e1]; exact h.snew, h.sold, h.spl⟩

section
variable {P : Program} {N : Nat} {all : Array Oper} {r : List O} {o : O} {σ : Sl} {H : List Own} {S : Seal} {Q : Pst}

theorem run_app {dst : Option Tmp} {c : Call} {type : TypeId} {pos : String} {after : Array Edge} {guard : Option (Nat × Bool)} {t u : TypeId} {x y : Operand} {a b v : Value} {w w' : World} {ts : Array Value} (hc : c.callee = .builtin .append) (h1 : c.argTypes.toList = [t, u]) (h2 : c.args.toList = [x, y]) (hx : Act.eval ⟨ts, []⟩ x = a) (hy : Act.eval ⟨ts, []⟩ y = b)
    (hr : (Builtin.append_ #[t, u] type #[a, b]).run P w = .ok v w') : (execOp (Act.eval ⟨ts, []⟩) ⟨dst, .call c, type, pos, after, guard⟩).run P w = .ok (.value v) w' := by
  obtain ⟨callee, args, ats⟩ := c
  simp only at hc h1 h2
  subst hc
  have e1 : ats = #[t, u] := by apply Array.ext'; simpa using h1
  have e2 : args = #[x, y] := by apply Array.ext'; simpa using h2
  subst e1 e2
  simp [execOp, resolve, invoke, builtin, hx, hy, hr]

theorem HOK.drewW {H : List Own} {S : Seal} {w : World} (h : HOK H S w) : HOK H S w.drew := h.drew

/-- To nothing. -/
theorem t_app0 {e : TypeId} {z bytes b2 k2 m c : Nat} {zero news : List Value} {x y : Operand} (hk : o.k = .app e z bytes zero x y) (hw : wtd σ o.g = some true) (hx : ev σ x = some (.slice none 0 0)) (hy : ev σ y = some (.slice (some ⟨b2, k2, none⟩) m c))
    (hn : Rn H S b2 k2 (m * z) news) (h0 : 0 < m) (h63 : (m : Int) ≤ 9223372036854775807) (h48 : m * bytes ≤ 281474976710656) (hz : zero.length = z)
    (h : ∀ b n, Fr b H → S b = none → T P N all r (pt σ o.d (.slice (some ⟨b, 0, none⟩) m (n / z))) (⟨some b, news, n⟩ :: H) S Q) : T P N all (o :: r) σ H S Q := by
  refine t_op (fun e => by rw [hk] at e; cases e) hw ?_
  intro p ts w K R hkp hd hlt hσ hH hK
  obtain ⟨dst, op, type, pos, after, guard⟩ := p
  rw [hk] at hkp
  obtain ⟨cl_, t, u, i, v, rfl, hc, h1, h2, hu1, hu2, hi, hzz, hne, rfl, rfl, rfl⟩ := toK_app hkp
  obtain ⟨hl, hnews⟩ := hn.ok hH
  have hr := run_append_nil (P := P) w t type e i v hu1 hi hzz ⟨b2, k2, none⟩ m c news hl (fun j q hj => by rw [Addr.add_lit]; exact hnews j q hj) h0 h63 h48
  rw [← app_types hu1 hu2 hi] at hr
  have hge := grownCap_ge w m 0 e
  have hsz : v.cells.size = i.size := by simpa using hz
  obtain ⟨f1, f2⟩ := hH.drewW.fresh (Nat.le_refl w.drew.heap.size)
  obtain ⟨a1, a2⟩ := hH.drewW.alloc (news.toArray ++ Builtin.zeroCells v.cells (grownCap w m 0 e - m)) e
  have a3 := a2.drew (w := w)
  unfold Oper.wp
  rw [run_app hc h1 h2 (ev_ok hσ hx) (ev_ok hσ hy) hr, Oper.upon_value, hd]
  have esz : (news.toArray ++ Builtin.zeroCells v.cells (grownCap w m 0 e - m)).size = grownCap w m 0 e * i.size := by
    simp only [Array.size_append, List.size_toArray, size_zeroCells, hsz, hl, ← Nat.add_mul]
    congr 1
    omega
  have ecap : (news.toArray ++ Builtin.zeroCells v.cells (grownCap w m 0 e - m)).size / i.size = grownCap w m 0 e := by
    rw [esz]
    exact Nat.mul_div_cancel _ (Nat.pos_of_ne_zero hne)
  have hlen : news.length ≤ (news.toArray ++ Builtin.zeroCells v.cells (grownCap w m 0 e - m)).size := by simp
  have b1 := a1.pre (cs := news) (fun j q hj => by
    have hlt : j < news.length := (List.getElem?_eq_some_iff.1 hj).1
    have e1 : (news.toArray ++ Builtin.zeroCells v.cells (grownCap w m 0 e - m)).toList = news ++ (Builtin.zeroCells v.cells (grownCap w m 0 e - m)).toList := by simp
    rw [e1, List.getElem?_append_left hlt]
    exact hj) hlen
  have b2' := a3.names (H2 := H) (H2' := ⟨some w.heap.size, news, (news.toArray ++ Builtin.zeroCells v.cells (grownCap w m 0 e - m)).size⟩ :: H) rfl (fun q hq => by
    rcases List.mem_cons.1 hq with rfl | hq
    · exact ⟨_, List.mem_cons_self, rfl⟩
    · exact ⟨q, List.mem_cons_of_mem _ hq, rfl⟩)
  have hT := h w.heap.size (news.toArray ++ Builtin.zeroCells v.cells (grownCap w m 0 e - m)).size (Fr.of f1) f2
  rw [ecap] at hT
  exact hK _ _ _ _ _ (hσ.pt (fun t ht => hlt t (by rw [hd]; exact ht)) []) b1 b2' hT

/-- To what one owns, that begins at its block's beginning. -/
theorem t_app1 {e : TypeId} {z bytes b b2 k2 n m c cap M : Nat} {zero cs news : List Value} {F : List Own} {x y : Operand} (hk : o.k = .app e z bytes zero x y) (hw : wtd σ o.g = some true) (hx : ev σ x = some (.slice (some ⟨b, 0, none⟩) n cap)) (hy : ev σ y = some (.slice (some ⟨b2, k2, none⟩) m c))
    (hp : H.Perm ([⟨some b, cs, M⟩] ++ F)) (hn : Rn H S b2 k2 (m * z) news) (h1c : news.all (·.oneCell') = true) (hcs : cs.length = n * z) (hcap : M / z = cap) (h63 : ((n + m : Nat) : Int) ≤ 9223372036854775807) (h48 : (n + m) * bytes ≤ 140737488355328) (hz : zero.length = z)
    (h : ∀ b' M', T P N all r (pt σ o.d (.slice (some ⟨b', 0, none⟩) (n + m) (M' / z))) (⟨some b', cs ++ news, M'⟩ :: F) S Q) : T P N all (o :: r) σ H S Q := by
  refine t_op (fun e => by rw [hk] at e; cases e) hw ?_
  intro p ts w K R hkp hd hlt hσ hH hK
  obtain ⟨dst, op, type, pos, after, guard⟩ := p
  rw [hk] at hkp
  obtain ⟨cl_, t, u, i, v, rfl, hc, h1, h2, hu1, hu2, hi, hzz, hne, rfl, rfl, rfl⟩ := toK_app hkp
  obtain ⟨hl, hnews⟩ := hn.ok hH
  have hHp : HOK (⟨some b, cs, M⟩ :: F) S w := hH.perm hp
  have hpos : 0 < i.size := Nat.pos_of_ne_zero hne
  have hsz : v.cells.size = i.size := by simpa using hz
  by_cases hroom : n + m ≤ cap
  · obtain ⟨l, hlen, hle, htk, hF⟩ := hHp.full
    have hfit : cs.length + news.length ≤ l.length := by
      rw [hlen, hcs, hl, ← Nat.add_mul]
      refine Nat.le_trans (Nat.mul_le_mul_right _ hroom) ?_
      rw [← hcap]
      exact Nat.div_mul_le_self M i.size
    have hst : stH (⟨some b, l, M⟩ :: F) b cs.length news = some (⟨some b, l.take cs.length ++ news ++ l.drop (cs.length + news.length), M⟩ :: F) := by
      unfold stH
      rw [if_pos rfl]
      unfold stl
      rw [if_pos hfit]
    obtain ⟨w', hr, a1, a2⟩ := stH_ok (P := P) (fun v hv => List.all_eq_true.1 h1c v hv) hF hst
    have hfc := run_firstCells_some (P := P) w i.size m ⟨b2, k2, none⟩ m c news hl (fun j q hj => by rw [Addr.add_lit]; exact hnews j q hj)
    have hrun : (Builtin.append_ #[t, u] type #[.slice (some ⟨b, 0, none⟩) n cap, .slice (some ⟨b2, k2, none⟩) m c]).run P w = .ok (.slice (some ⟨b, 0, none⟩) (n + m) cap) w' := by
      rw [app_types hu1 hu2 hi]
      rw [hcs] at hr
      simp [Builtin.append_, run_underlying hu1, sizeOf, typeInfo, hi, Builtin.lenOf, hroom, hfc, Addr.add_lit, hr]
    unfold Oper.wp
    rw [run_app hc h1 h2 (ev_ok hσ hx) (ev_ok hσ hy) hrun, Oper.upon_value, hd]
    have b1 : HOK (⟨some b, cs ++ news, M⟩ :: F) S w' := by
      refine a1.pre (fun j q hj => ?_) ?_
      · rw [htk]
        have hlt : j < (cs ++ news).length := (List.getElem?_eq_some_iff.1 hj).1
        rw [List.getElem?_append_left hlt]
        exact hj
      · simp only [List.length_append]
        omega
    have b3 : Step H S w (⟨some b, cs ++ news, M⟩ :: F) S w' := by
      have g1 := a2.names (H2 := ⟨some b, cs, M⟩ :: F) (H2' := ⟨some b, cs ++ news, M⟩ :: F) rfl (fun q hq => by
        rcases List.mem_cons.1 hq with rfl | hq
        · exact ⟨_, List.mem_cons_self, rfl⟩
        · exact ⟨q, List.mem_cons_of_mem _ hq, rfl⟩)
      exact g1.perm hp.symm
    have hT := h b M
    rw [hcap] at hT
    exact hK _ _ _ _ _ (hσ.pt (fun t ht => hlt t (by rw [hd]; exact ht)) []) b1 b3 hT
  · have holds : ∀ j q, cs[j]? = some q → w.cell? ((⟨b, 0, none⟩ : Addr).add j) = some q := by
      intro j q hj
      obtain ⟨arr, T, g1, _, _, g2⟩ := hHp.at0
      simp only at g1 g2
      simp [World.cell?, Addr.add_lit, g1, g2 j q hj]
    have hr := run_append_grow (P := P) w t type e i v hu1 hi hzz ⟨b, 0, none⟩ n cap cs hcs holds ⟨b2, k2, none⟩ m c news hl (fun j q hj => by rw [Addr.add_lit]; exact hnews j q hj) (by omega) h63 (growslice_fits (by omega) h48)
    rw [← app_types hu1 hu2 hi] at hr
    have hge := grownCap_ge w (n + m) cap e
    obtain ⟨a1, a2⟩ := hH.drewW.alloc (cs.toArray ++ news.toArray ++ Builtin.zeroCells v.cells (grownCap w (n + m) cap e - (n + m))) e
    have a3 := a2.drew (w := w)
    unfold Oper.wp
    rw [run_app hc h1 h2 (ev_ok hσ hx) (ev_ok hσ hy) hr, Oper.upon_value, hd]
    have esz : (cs.toArray ++ news.toArray ++ Builtin.zeroCells v.cells (grownCap w (n + m) cap e - (n + m))).size = grownCap w (n + m) cap e * i.size := by
      simp only [Array.size_append, List.size_toArray, size_zeroCells, hsz, hcs, hl, ← Nat.add_mul]
      congr 1
      omega
    have ecap : (cs.toArray ++ news.toArray ++ Builtin.zeroCells v.cells (grownCap w (n + m) cap e - (n + m))).size / i.size = grownCap w (n + m) cap e := by
      rw [esz]
      exact Nat.mul_div_cancel _ hpos
    have hlen : (cs ++ news).length ≤ (cs.toArray ++ news.toArray ++ Builtin.zeroCells v.cells (grownCap w (n + m) cap e - (n + m))).size := by simp
    have hp2 : (⟨some w.heap.size, (cs.toArray ++ news.toArray ++ Builtin.zeroCells v.cells (grownCap w (n + m) cap e - (n + m))).toList, (cs.toArray ++ news.toArray ++ Builtin.zeroCells v.cells (grownCap w (n + m) cap e - (n + m))).size⟩ :: H : List Own).Perm ((⟨some w.heap.size, (cs.toArray ++ news.toArray ++ Builtin.zeroCells v.cells (grownCap w (n + m) cap e - (n + m))).toList, (cs.toArray ++ news.toArray ++ Builtin.zeroCells v.cells (grownCap w (n + m) cap e - (n + m))).size⟩ :: F) ++ [⟨some b, cs, M⟩]) :=
      List.Perm.cons _ (hp.trans List.perm_append_comm)
    have a4 := (a1.perm hp2).drop
    have b1 := a4.pre (cs := cs ++ news) (fun j q hj => by
      have hlt : j < (cs ++ news).length := (List.getElem?_eq_some_iff.1 hj).1
      have e1 : (cs.toArray ++ news.toArray ++ Builtin.zeroCells v.cells (grownCap w (n + m) cap e - (n + m))).toList = (cs ++ news) ++ (Builtin.zeroCells v.cells (grownCap w (n + m) cap e - (n + m))).toList := by simp
      rw [e1, List.getElem?_append_left hlt]
      exact hj) hlen
    have b3 := a3.names (H2 := H) (H2' := ⟨some w.heap.size, cs ++ news, (cs.toArray ++ news.toArray ++ Builtin.zeroCells v.cells (grownCap w (n + m) cap e - (n + m))).size⟩ :: F) rfl (fun q hq => by
      rcases List.mem_cons.1 hq with rfl | hq
      · exact ⟨_, List.mem_cons_self, rfl⟩
      · exact ⟨q, List.mem_cons_of_mem _ (hp.mem_iff.2 (by simp [hq])), rfl⟩)
    have hT := h w.heap.size (cs.toArray ++ news.toArray ++ Builtin.zeroCells v.cells (grownCap w (n + m) cap e - (n + m))).size
    rw [ecap] at hT
    exact hK _ _ _ _ _ (hσ.pt (fun t ht => hlt t (by rw [hd]; exact ht)) []) b1 b3 hT
end
end Go.Proofs.YtobjaddicodiaaaDoorE
end

section
/- A region that draws its order, by its states: from each set of operations that have been, each one that may come next. -/
namespace Go.Proofs.YtobjaddicodiaaaDoorE
open Go Go.RowKit
set_option linter.unusedVariables false
set_option linter.unusedSimpArgs false

def rdyL (ds : List (List Nat)) (A : List Bool) : List Nat := (List.range ds.length).filter fun i => !(A.getD i false) && (ds.getD i []).all fun e => A.getD e false
def AllR (p : Nat → Prop) : List Nat → Prop
  | [] => True
  | i :: r => p i ∧ AllR p r
theorem AllR.mem {p : Nat → Prop} : ∀ {l : List Nat} {i : Nat}, AllR p l → i ∈ l → p i
  | a :: r, i, h, hi => by
    rcases List.mem_cons.1 hi with rfl | hi
    · exact h.1
    · exact AllR.mem h.2 hi
def exN (R : Exit → Act → World → Prop) (K : Act → World → Prop) : Exit → Act → World → Prop
  | .normal, a, w => K a w
  | e, a, w => R e a w
theorem upon_ex {P : Program} {o : Oper} {a : Act} {w : World} {R : Exit → Act → World → Prop} {K K2 : Act → World → Prop} (h : o.wp P a w K2 (exN R K)) : o.wp P a w K2 R := by
  unfold Oper.wp at *
  generalize (execOp a.eval o).run P w = r at *
  cases r with
  | ok n w' =>
    cases n with
    | enter f args =>
      rw [Oper.upon_enter] at h ⊢
      refine h.mono ?_
      intro e w2 h2
      cases e <;> exact h2
    | _ => exact h
  | halt x w' =>
    cases x <;> exact h

section
variable {P : Program} {N : Nat} {σ : Sl} {H : List Own} {S : Seal}
theorem one_op {ops : Array Oper} {R : Exit → Act → World → Prop} {K : Act → World → Prop} {i : Nat} {p : Oper} {σ1 : Sl} {H1 : List Own} {M : Pst} {ts : Array Value} {w : World} (hp : ops[i]? = some p) (hT : T P N ops [toO P N ops p] σ1 H1 S M) (hσ : SlOK σ1 ts) (hN : ts.size = N) (hH : HOK H1 S w)
    (hK : ∀ σ' H' S' ts' w', M σ' H' S' → SlOK σ' ts' → ts'.size = N → HOK H' S' w' → Step H1 S w H' S' w' → K ⟨ts', []⟩ w') : wpOp P ops R i K ⟨ts, []⟩ w := by
  have h := hT [p] rfl ts w (exN R K) hσ hN hH hK
  unfold wpOp
  rw [hp]
  simp only
  unfold wpList at h
  split at h
  · rename_i hw
    rw [if_pos hw]
    rcases h with h | ⟨h1, a2, w2, h2⟩
    · exact Or.inl (Oper.wp_mono (fun a w h => h) (upon_ex h))
    · exact Or.inr ⟨h1, a2, w2, h2⟩
  · rename_i hw
    rw [if_neg hw]
    exact h

end
end Go.Proofs.YtobjaddicodiaaaDoorE
end

section
/- A quiet operation first. -/
namespace Go.Proofs.YtobjaddicodiaaaDoorE
open Go Go.RowKit
set_option linter.unusedVariables false
set_option linter.unusedSimpArgs false
set_option linter.unnecessarySimpa false

theorem mem_opT {t : Nat} {x : Operand} (h : Operand.tmp t = x) : t ∈ opT x := by subst h; simp [opT]
theorem mem_opsT {t : Nat} {xs : List Operand} (h : Operand.tmp t ∈ xs) : t ∈ opsT xs := by
  unfold opsT
  exact List.mem_flatMap.2 ⟨_, h, mem_opT rfl⟩
theorem mem_oopT {t : Nat} {x : Option Operand} (h : some (Operand.tmp t) = x) : t ∈ oopT x := by subst h; simp [oopT, opT]
theorem mem_pT {t : Nat} {ps : List (Nat × Nat × Operand)} (h : Operand.tmp t ∈ ps.map (·.2.2)) : t ∈ pT ps := by
  unfold pT
  obtain ⟨p, hp, he⟩ := List.mem_map.1 h
  exact List.mem_flatMap.2 ⟨p, hp, mem_opT he.symm⟩
theorem places_mem {P : Program} {fs : Array Field} : ∀ {l : List (Nat × Operand)} {ps : List (Nat × Nat × Operand)}, placesT P fs l = some ps → ps.map (·.2.2) = l.map (·.2)
  | [], ps, h => by simp only [placesT, Option.some.injEq] at h; subst h; rfl
  | (i, x) :: r, ps, h => by
    unfold placesT at h
    split at h
    · rename_i f l hf hl
      split at h
      · obtain rfl := Option.some.inj h
        simp [places_mem hl]
      · cases h
    · cases h

theorem looks_sub {P : Program} {op : Op} {t : Nat} {k : K} (hk : toK P op = k) (hf : k ≠ .fail) (hl : ∀ n, k ≠ .lnc n) (h : Operand.tmp t ∈ op.operands.toList) : t ∈ kT k := by
  cases op
  case slice ty x lo hi mx =>
    cases mx with
    | some y => simp only [toK] at hk; exact absurd hk.symm hf
    | none =>
      simp only [toK] at hk
      simp only [Op.operands, Array.toList_append, List.mem_append, List.mem_singleton, Option.mem_toList, Option.toList_toArray] at h
      (repeat' split at hk) <;> subst hk <;> first
        | exact absurd rfl hf
        | (simp only [kT, List.mem_append]
           rcases h with ((h | h) | h) | h
           · exact Or.inl (Or.inl (mem_opT h))
           · exact Or.inl (Or.inr (mem_oopT (by simpa [eq_comm] using h)))
           · exact Or.inr (mem_oopT (by simpa [eq_comm] using h))
           · simp at h)
  case build ty parts =>
    simp only [toK] at hk
    simp only [Op.operands] at h
    split at hk
    · split at hk
      · rename_i ps hps
        split at hk
        · subst hk
          simp only [kT]
          refine mem_pT ?_
          rw [places_mem hps]
          simpa using h
        · exact absurd hk.symm hf
      · exact absurd hk.symm hf
    · split at hk
      · subst hk
        simp only [kT]
        refine mem_pT ?_
        simpa using h
      · exact absurd hk.symm hf
    · exact absurd hk.symm hf
  case buildSlice ty n parts =>
    simp only [toK] at hk
    simp only [Op.operands] at h
    (repeat' split at hk) <;> subst hk <;> first
      | exact absurd rfl hf
      | (simp only [kT]
         refine mem_pT ?_
         simpa using h)
  case makeFunc fn first caps =>
    simp only [toK] at hk
    simp only [Op.operands, Array.toList_append, List.mem_append] at h
    (repeat' split at hk) <;> subst hk <;> first
      | exact absurd rfl hf
      | (rename_i hz
         have : first.toList = [] := by
           apply List.eq_nil_of_length_eq_zero
           simpa using hz
         rw [this] at h
         simp only [kT]
         refine mem_opsT ?_
         simpa using h)
  case call c =>
    simp only [toK] at hk
    simp only [Op.operands, Call.operands, Array.toList_append, List.mem_append] at h
    obtain ⟨callee, args, ats⟩ := c
    simp only at hk h
    have key : ∀ {xs : List Operand}, args.toList = xs → callee.casesOn (motive := fun _ => Prop) (fun f => f = f) (fun _ _ => True) (fun _ => True) → True := fun _ _ => trivial
    cases callee with
    | value f =>
      cases f <;> (simp only at hk) <;> ((repeat' split at hk) <;> subst hk <;> first
        | exact absurd rfl hf
        | (simp only [kT, List.mem_append]
           rcases h with h | h
           · simp at h
           · exact mem_opsT h)
        | (simp only [kT, List.mem_append]
           rcases h with h | h
           · exact Or.inl (mem_opT (by simpa using h))
           · exact Or.inr (mem_opsT h))
        | (simp at h))
    | invoke r m => (simp only at hk); exact absurd hk.symm hf
    | builtin b =>
      cases b <;> (simp only at hk) <;> ((repeat' split at hk) <;> subst hk <;> first
        | exact absurd rfl hf
        | exact absurd rfl (hl _)
        | (simp only [kT]
           rcases h with h | h
           · simp at h
           · exact mem_opsT h)
        | (rename_i h1 h2 _ _ _ _
           rcases h with h | h
           · simp at h
           · simp_all [kT, opT])
        | (rcases h with h | h
           · simp at h
           · simp_all [kT]
             first
               | exact mem_opT h
               | exact h.imp mem_opT mem_opT))
  all_goals simp only [toK] at hk
  all_goals (try simp only [Op.operands, List.mem_cons, List.not_mem_nil, or_false, false_or] at h)
  all_goals
    (repeat' split at hk) <;> subst hk <;> first
      | exact absurd rfl hf
      | (simp only [kT, List.mem_append]; exact mem_opT h)
      | (simp only [kT, List.mem_append]; exact h.imp mem_opT mem_opT)
      | (simp only [kT, List.mem_append]
         rcases h with h | h | h
         · exact Or.inl (Or.inl (mem_opT h))
         · exact Or.inl (Or.inr (mem_opT h))
         · exact Or.inr (mem_opT h))
      | (simp at h)

def okK : K → Bool
  | .fail => false
  | .lnc _ => false
  | _ => true
theorem okK_ne {k : K} (h : okK k = true) : k ≠ .fail ∧ ∀ n, k ≠ .lnc n := ⟨fun e => (by subst e; cases h), fun n e => (by subst e; cases h)⟩

theorem looks_oT {P : Program} {N : Nat} {ops : Array Oper} {o : Oper} {t : Nat} (hk : okK (toO P N ops o).k = true) (h : t ∈ o.looksAt ops) : t ∈ oT (toO P N ops o) := by
  obtain ⟨h1, h2⟩ := okK_ne hk
  obtain ⟨e1, _⟩ := toO_k h1
  unfold Oper.looksAt at h
  unfold oT
  rw [List.mem_append] at h ⊢
  rcases h with h | h
  · refine Or.inr ?_
    rw [e1] at h1 h2 ⊢
    refine looks_sub rfl h1 h2 ?_
    obtain ⟨x, hx, he⟩ := List.mem_filterMap.1 h
    cases x <;> simp at he
    subst he
    exact hx
  · refine Or.inl ?_
    unfold toO at h1 ⊢
    cases hg : o.guard with
    | none => rw [hg] at h; simp at h
    | some p =>
      obtain ⟨j, b⟩ := p
      rw [hg] at h h1
      simp only at h h1 ⊢
      cases hb : (ops[j]?).bind (·.dst) with
      | none => rw [hb] at h; simp at h
      | some d =>
        rw [hb] at h
        simp at h
        simp [h]
theorem apart_of {P : Program} {N : Nat} {ops : Array Oper} {x y : Oper} (hx : okK (toO P N ops x).k = true) (hy : okK (toO P N ops y).k = true) (h : apartO (toO P N ops x) (toO P N ops y) = true) : x.apart ops y = true := by
  obtain ⟨h1, h2⟩ := apartO_spec h
  rw [toO_d] at h1 h2
  rw [toO_d] at h1
  unfold Oper.apart
  rw [Bool.and_eq_true]
  constructor
  · cases hd : x.dst with
    | none => rfl
    | some d =>
      obtain ⟨a1, a2⟩ := h1 d hd
      simp only [Bool.and_eq_true, Bool.not_eq_true', List.contains_eq_mem, decide_eq_false_iff_not, bne_iff_ne]
      exact ⟨fun hm => a1 (looks_oT hy hm), a2⟩
  · cases hd : y.dst with
    | none => rfl
    | some d =>
      simp only [Bool.not_eq_true', List.contains_eq_mem, decide_eq_false_iff_not]
      exact fun hm => h2 d hd (looks_oT hx hm)

def noP (R : Exit → Act → World → Prop) : Exit → Act → World → Prop
  | .panic _, _, _ => False
  | e, a, w => R e a w
theorem wp_noP {P : Program} {o : Oper} {a : Act} {w : World} {R : Exit → Act → World → Prop} {K : Act → World → Prop} (h : o.wp P a w K (noP R)) : o.wp P a w K R := by
  unfold Oper.wp at *
  generalize (execOp a.eval o).run P w = r at *
  cases r with
  | ok n w' =>
    cases n with
    | enter f args =>
      rw [Oper.upon_enter] at h ⊢
      refine h.mono ?_
      intro e w2 h2
      cases e with
      | panicked c => exact h2.elim
      | _ => exact h2
    | _ => exact h
  | halt x w' =>
    cases x <;> first | exact h | exact (h : False).elim
theorem any_noP {P : Program} {ops : Array Oper} {R : Exit → Act → World → Prop} : ∀ (fuel : Nat) (listed : Array Bool) (a : Act) (w : World), wpAny P .any ops (noP R) fuel listed a w → wpAny P .any ops R fuel listed a w
  | 0, _, _, _, h => h
  | fuel + 1, listed, a, w, h => by
    refine ⟨h.1, fun i hi => ?_⟩
    have h2 := h.2 i hi
    unfold wpOp at h2 ⊢
    split
    · rename_i hn
      rw [hn] at h2
      exact any_noP fuel _ _ _ h2
    · rename_i o ho
      rw [ho] at h2
      simp only at h2
      split
      · rename_i hw
        rw [if_pos hw] at h2
        exact h2.imp (fun h => Oper.wp_mono (fun a w h => any_noP fuel _ _ _ h) (wp_noP h)) id
      · rename_i hw
        rw [if_neg hw] at h2
        exact any_noP fuel _ _ _ h2

def qOK (L : List O) (ds : List (List Nat)) (A : List Bool) (i : Nat) : Bool :=
  (rdyL ds A).contains i && (List.range L.length).all fun j => j == i || A.getD j true || (ds.getD j []).contains i || apartO (L.getD i ⟨none, .fail, none⟩) (L.getD j ⟨none, .fail, none⟩)

section
variable {P : Program} {N : Nat} {σ : Sl} {H : List Own} {S : Seal}
theorem w_gameQ {Q : Qst} {L : List O} {ds : List (List Nat)} (hmix : P.follows .mixedOrders = true) (hok : L.all (fun o => okK o.k) = true)
    (hG : ∀ (all : Array Oper) (G : List Bool → Sl → List Own → Prop), (∀ A σ H, A.all id = true → Q .nrm σ H S → G A σ H) →
      (∀ (is : List Nat) A σ H, rdyL ds A = is → is ≠ [] → AllR (fun i => T P N all [L.getD i ⟨none, .fail, none⟩] σ H S fun σ' H' S' => G (A.set i true) σ' H' ∧ S' = S) is → G A σ H) →
      (∀ (i : Nat) (ks : List Nat) A σ H σ', qOK L ds A i = true → kpo ks (qz [] noS 1 [L.getD i ⟨none, .fail, none⟩] σ) = some σ' → G (A.set i true) σ' H → G A σ H) →
      G (List.replicate ds.length false) σ H) : W P N (.drw L ds) σ H S Q := by
  intro code hc ts0 w0 R hσ hN hH hR
  cases code <;> (try simp only [toC] at hc) <;> (try cases hc; done)
  case region id ops dr =>
    cases dr with
    | false => simp [toC] at hc
    | true =>
    simp only [toC] at hc
    injection hc with e1 e2
    subst e1 e2
    refine wp_region_any hmix (any_noP _ _ _ _ ?_)
    have lstA : ∀ (listed : Array Bool) (j : Nat), lst listed j = listed.toList.getD j false := fun listed j => by
      unfold lst
      simp [Array.getD_eq_getD_getElem?, List.getD_eq_getElem?_getD]
    have hget : ∀ (i : Nat) (h : i < ops.size), (ops.toList.map (toO P N ops)).getD i ⟨none, .fail, none⟩ = toO P N ops ops[i] := fun i h => by
      simp [List.getD_eq_getElem?_getD, h]
    have hokO : ∀ (i : Nat) (h : i < ops.size), okK (toO P N ops ops[i]).k = true := fun i h => by
      refine List.all_eq_true.1 hok _ ?_
      exact List.mem_map.2 ⟨ops[i], by simp, rfl⟩
    have hcnt : ∀ {A : List Bool} {listed : Array Bool} (hs : listed.size = ops.size) (hl : listed.toList = A) (i : Nat), i ∈ Region.ready .any ops listed → A.count false = (A.set i true).count false + 1 := by
      intro A listed hs hl i hi
      obtain ⟨h1, h2, _⟩ := (ready_iff hs).1 hi
      have hlen : i < A.length := by rw [← hl]; simpa [hs] using h1
      have hfalse : A[i] = false := by
        have := h2
        rw [lstA, hl] at this
        simpa [List.getD_eq_getElem?_getD, hlen] using this
      have hpos : 0 < A.count false := List.count_pos_iff.2 (hfalse ▸ List.getElem_mem hlen)
      rw [List.count_set hlen, hfalse]
      simp
      omega
    have hrdy : ∀ {A : List Bool} {listed : Array Bool} (hs : listed.size = ops.size) (hl : listed.toList = A) (i : Nat), i ∈ Region.ready .any ops listed ↔ i ∈ rdyL (ops.toList.map depsOf) A := by
      intro A listed hs hl i
      rw [ready_iff hs]
      unfold rdyL
      simp only [List.mem_filter, List.mem_range, Bool.and_eq_true, Bool.not_eq_true', List.all_eq_true, List.length_map, Array.length_toList, ← hl, ← lstA]
    have main := hG ops (fun A σ1 H1 => ∀ (fuel : Nat) (listed : Array Bool) (ts : Array Value) (w : World), listed.size = ops.size → listed.toList = A → A.count false ≤ fuel → SlOK σ1 ts → ts.size = N → HOK H1 S w → Step H S w0 H1 S w → wpAny P .any ops (noP R) fuel listed ⟨ts, []⟩ w) ?_ ?_ ?_
    · refine main ops.size (Array.replicate ops.size false) ts0 _ (by simp) (by simp) (by simp) hσ hN hH.drew (Step.refl H S w0).drew'
    · intro A σ1 H1 hA hQ fuel listed ts w hs hl hf hσ1 hN1 hH1 hst
      have hall : ∀ i, i < ops.size → lst listed i = true := by
        intro i hi
        rw [lstA, hl]
        have hlen : i < A.length := by rw [← hl]; simpa [hs] using hi
        have := List.all_eq_true.1 hA A[i] (List.getElem_mem hlen)
        simpa [List.getD_eq_getElem?_getD, hlen] using this
      have hr : Region.ready .any ops listed = [] := by
        refine List.eq_nil_iff_forall_not_mem.2 fun i hi => ?_
        obtain ⟨h1, h2, _⟩ := (ready_iff hs).1 hi
        rw [hall i h1] at h2; cases h2
      have hn : noP R .normal ⟨ts, []⟩ w := hR .nrm σ1 H1 S ts w hQ hσ1 hN1 hH1 hst
      cases fuel with
      | zero => exact ⟨hr, hn⟩
      | succ fuel => exact ⟨fun _ => hn, fun i hi => by rw [hr] at hi; cases hi⟩
    · intro is A σ1 H1 hrd hne hall fuel listed ts w hs hl hf hσ1 hN1 hH1 hst
      have hrdy' : ∀ i, i ∈ Region.ready .any ops listed ↔ i ∈ is := fun i => by rw [hrdy hs hl, hrd]
      obtain ⟨i0, hi0⟩ : ∃ i, i ∈ is := by
        cases is with
        | nil => exact absurd rfl hne
        | cons a r => exact ⟨a, List.mem_cons_self⟩
      cases fuel with
      | zero =>
        have := hcnt hs hl i0 ((hrdy' i0).2 hi0)
        omega
      | succ fuel =>
        refine ⟨fun hr => ?_, fun i hi => ?_⟩
        · have := (hrdy' i0).2 hi0
          rw [hr] at this; cases this
        · have hi' := (hrdy' i).1 hi
          obtain ⟨h1, h2, _⟩ := (ready_iff hs).1 hi
          have hp : ops[i]? = some ops[i] := Array.getElem?_eq_getElem h1
          have hT := hall.mem hi'
          rw [hget i h1] at hT
          refine one_op hp hT hσ1 hN1 hH1 ?_
          rintro σ' H' S' ts' w' ⟨q, rfl⟩ a1 a2 a3 st
          have := hcnt hs hl i hi
          exact q fuel _ ts' w' (by simpa using hs) (by simp [Array.toList_setIfInBounds, hl]) (by omega) a1 a2 a3 (hst.trans st)
    · intro i ks A σ1 H1 σ2 hq hz hg fuel listed ts w hs hl hf hσ1 hN1 hH1 hst
      unfold qOK at hq
      simp only [Bool.and_eq_true, List.contains_eq_mem, decide_eq_true_eq, List.all_eq_true, List.mem_range, Bool.or_eq_true, beq_iff_eq, List.length_map, Array.length_toList] at hq
      obtain ⟨hir, hfree⟩ := hq
      have hi := (hrdy hs hl i).2 hir
      obtain ⟨h1, h2, _⟩ := (ready_iff hs).1 hi
      have hp : ops[i]? = some ops[i] := Array.getElem?_eq_getElem h1
      rw [hget i h1] at hz
      have hoki := hokO i h1
      obtain ⟨kf, kl⟩ := okK_ne hoki
      obtain ⟨ek, hdN⟩ := toO_k kf
      cases fuel with
      | zero =>
        have := hcnt hs hl i hi
        omega
      | succ fuel =>
        have hsel : ∀ (j : Nat) (o : Oper) cs b, ops[j]? = some o → o.op ≠ .select cs b := by
          intro j o cs b hj he
          obtain ⟨hjl, hje⟩ := Array.getElem?_eq_some_iff.1 hj
          have h3 := hokO j hjl
          rw [hje] at h3
          obtain ⟨k1, k2⟩ := okK_ne h3
          have := (toO_k k1).1
          rw [this, he] at k1
          exact k1 rfl
        have free : ∀ j oj, ops[j]? = some oj → j ≠ i → listed.getD j true = false → (∀ e ∈ oj.after, Region.binds .any e = true → e.on ≠ i) → (ops[i]).apart ops oj = true := by
          intro j oj hj hji hun hno
          obtain ⟨hjl, hje⟩ := Array.getElem?_eq_some_iff.1 hj
          have h3 := hokO j hjl
          rcases hfree j hjl with ((h4 | h4) | h4) | h4
          · exact absurd h4 hji
          · rw [← hl] at h4
            have : listed.getD j true = true := by
              simpa [Array.getD_eq_getD_getElem?, List.getD_eq_getElem?_getD] using h4
            rw [this] at hun; cases hun
          · exfalso
            simp only [List.getD_eq_getElem?_getD, List.getElem?_map, Array.getElem?_toList, hj, Option.map_some, Option.getD_some, depsOf, List.mem_map, List.mem_filter, Array.mem_toList_iff] at h4
            obtain ⟨e, ⟨he1, he2⟩, he3⟩ := h4
            exact hno e he1 he2 he3
          · rw [hget i h1, hget j hjl, hje] at h4
            rw [hje] at h3
            exact apart_of hoki h3 h4
        have fin : ∀ v, Yields P ops ops[i] v ⟨ts, []⟩ → SlOK σ2 (Act.put ⟨ts, []⟩ (ops[i]).dst v).tmps → wpAny P .any ops (noP R) (fuel + 1) listed ⟨ts, []⟩ w := by
          intro v hy hsl
          refine wpAny_first (Q := noP R) (v := v) hp hsel (fun c a w h => h) fuel listed _ w free hi hy ?_
          rw [put_form]
          have := hcnt hs hl i hi
          exact hg fuel _ _ w (by simpa using hs) (by simp [Array.toList_setIfInBounds, hl]) (by omega) hsl (by rw [put_size]; exact hN1) hH1 hst
        have hd : (toO P N ops ops[i]).d = (ops[i]).dst := toO_d
        cases hw : wtd σ1 (toO P N ops ops[i]).g with
        | none => simp [qz, hw, kpo] at hz
        | some b =>
          have hwant := toO_w (P := P) (N := N) (all := ops) (o := ops[i]) hσ1 hw kf
          cases b with
          | true =>
            cases hv : qv [] noS σ1 (toO P N ops ops[i]).k with
            | none => simp [qz, hw, hv, kpo] at hz
            | some v =>
              simp only [qz, hw, hv, kpo, Option.some.injEq] at hz
              subst hz
              refine fin v (Or.inl ⟨hwant, fun w => ?_⟩) ?_
              · rw [ek] at hv
                exact quiet (df := []) hσ1 (hok0 w) hv
              · rw [hd]
                exact (hσ1.pt (fun t ht => by rw [hN1]; exact hdN t ht) []).keep ks
          | false =>
            simp only [qz, hw] at hz
            split at hz
            · simp [kpo] at hz
            · simp only [kpo, Option.some.injEq] at hz
              subst hz
              refine fin undef (Or.inr ⟨hwant, rfl⟩) ?_
              rw [hd]
              exact (hσ1.pt (fun t ht => by rw [hN1]; exact hdN t ht) []).keep ks
end
end Go.Proofs.YtobjaddicodiaaaDoorE
end

section
/- A place that is one of few. -/
namespace Go.Proofs.YtobjaddicodiaaaDoorE
open Go Go.RowKit
section
variable {H : List Own} {S : Seal} {σ : Sl} {i : Operand} {kk : IntKind} {v j : Int} {u : Value}
theorem ixs_at {z : Nat} {x : Operand} (hi : ev σ i = some (.int kk v)) (hv : (v == j) = true) (h : qv H S σ (.ixs z x (.const (.int kk j))) = some u) : qv H S σ (.ixs z x i) = some u := by
  obtain rfl := beq_iff_eq.1 hv
  simp only [qv] at h ⊢
  rw [hi]
  exact h
theorem ixa_at {z m : Nat} {x : Operand} (hi : ev σ i = some (.int kk v)) (hv : (v == j) = true) (h : qv H S σ (.ixa z m x (.const (.int kk j))) = some u) : qv H S σ (.ixa z m x i) = some u := by
  obtain rfl := beq_iff_eq.1 hv
  simp only [qv] at h ⊢
  rw [hi]
  exact h
end
end Go.Proofs.YtobjaddicodiaaaDoorE
end

section
/- A sealed list of whole numbers, of any length. -/
namespace Go.Proofs.YtobjaddicodiaaaDoorE
open Go Go.RowKit
set_option linter.unusedVariables false
/-- The slice that begins at a, in sealed memory, reads as L. -/
def SlI (S : Seal) (k : IntKind) (L : List Int) (a : Option Addr) : Prop := L = [] ∨ ∃ b o l, a = some ⟨b, o, none⟩ ∧ S b = some l ∧ ∀ (i : Nat) (x : Int), L[i]? = some x → l[o + i]? = some (.int k x)
/-- The i-th, or nothing. -/
def lget (L : List Int) (i : Int) : Option Int := if i < 0 then none else L[i.toNat]?
section
variable {H : List Own} {S : Seal} {σ : Sl} {x i : Operand} {kk : IntKind} {v : Int} {a : Option Addr} {n c b o z : Nat}
theorem ixs_sl (hx : ev σ x = some (.slice a n c)) (hi : ev σ i = some (.int kk v)) (ha : a = some ⟨b, o, none⟩) (h0 : 0 ≤ v) (h1 : v < n) : qv H S σ (.ixs z x i) = some (.pointer (some ⟨b, o + v.toNat * z, none⟩)) := by
  subst ha
  simp only [qv]
  rw [hx, hi]
  simp only
  rw [if_pos ⟨h0, h1⟩]
end
end Go.Proofs.YtobjaddicodiaaaDoorE
end

section
/- A law's slice of whole numbers: its block sealed. -/
namespace Go.Proofs.YtobjaddicodiaaaDoorE
open Go Go.RowKit
set_option linter.unusedVariables false
set_option linter.unusedSimpArgs false
set_option linter.unnecessarySimpa false
/-- All that is there, as it is. -/
def sealW (w : World) (pl : Nat → Prop) : Seal := ⟨fun b => match w.heap[b]? with
  | some (.cells c _ _) => some c.toList
  | _ => none, pl⟩
theorem sealW_at {w : World} {pl : Nat → Prop} {b : Nat} {c : Array Value} {T : TypeId} {z : Nat × Nat} (h : w.heap[b]? = some (.cells c T z)) : sealW w pl b = some c.toList := by
  simp only [sealW, h]
theorem hokW {w : World} {pl : Nat → Prop} (h : ∀ b, pl b → ∃ (arr : Array Value) (T : TypeId), w.heap[b]? = some (.cells arr T (0, 0))) : HOK [] (sealW w pl) w := by
  refine ⟨fun _ h => (by cases h), List.nodup_nil, fun _ h => (by cases h), fun b l hl => ?_, fun b hb => ⟨fun h => (by cases h), h b hb⟩⟩
  simp only [sealW] at hl
  split at hl
  · rename_i c T z hh
    obtain rfl := Option.some.inj hl
    exact ⟨c, T, z, hh, fun i v hv => by simpa using hv⟩
  · cases hl
theorem cell_block {w : World} {a : Addr} {v : Value} (h : w.cell? a = some v) : ∃ (c : Array Value) (T : TypeId) (z : Nat × Nat), w.heap[a.block]? = some (.cells c T z) ∧ a = ⟨a.block, a.off, none⟩ ∧ c[a.off]? = some v := by
  obtain ⟨b, o, sp⟩ := a
  unfold World.cell? at h
  cases hb : w.heap[b]? with
  | none => simp [hb] at h
  | some ob =>
    cases ob with
    | cells c T z =>
      cases sp with
      | none => exact ⟨c, T, z, rfl, rfl, by simpa [hb] using h⟩
      | some q => simp [hb] at h
    | _ => simp [hb] at h
theorem ints_W {w : World} {pl : Nat → Prop} {k : IntKind} {a : Addr} {len : Nat} {zs : List Int} (hl : len ≤ zs.length) (h : ∀ i, i < zs.length → w.cell? (a.add i) = some (.int k (zs.getD i 0))) : SlI (sealW w pl) k (zs.take len) (some a) := by
  by_cases h0 : len = 0
  · exact Or.inl (by simp [h0])
  · have hc := h 0 (by omega)
    have e0 : a.add 0 = a := by simp [Addr.add]
    rw [e0] at hc
    obtain ⟨c, T, z, hh, ha, _⟩ := cell_block hc
    obtain ⟨b, o, sp⟩ := a
    simp only [Addr.mk.injEq, true_and] at ha
    subst ha
    refine Or.inr ⟨b, o, c.toList, rfl, sealW_at hh, ?_⟩
    intro i x hx
    have hlt : i < zs.length := by
      have := (List.getElem?_eq_some_iff.1 hx).1
      simp at this
      omega
    have hc2 := h i hlt
    rw [Addr.add_lit] at hc2
    simp only [World.cell?, hh] at hc2
    have e : zs.getD i 0 = x := by
      rw [List.getElem?_take] at hx
      split at hx
      · simp [List.getD_eq_getElem?_getD, hx]
      · cases hx
    rw [e] at hc2
    simpa using hc2
end Go.Proofs.YtobjaddicodiaaaDoorE
end

section
/- A struct of whole numbers and truth values, however deep, as a law's argument: its leaves. -/
namespace Go.Proofs.YtobjaddicodiaaaDoorE
open Go Go.RowKit Go.WideShapes
set_option linter.unusedVariables false
def flatFs (g : TypeId → Option (List (Option IntKind))) (P : Program) : Nat → List Field → Option (List (Option IntKind))
  | _, [] => some []
  | o, f :: r => if f.offset = o then match g f.type with
    | some a => if a.length = P.cellsOf f.type then (match flatFs g P (o + a.length) r with
      | some b => some (a ++ b)
      | none => none) else none
    | none => none
    else none
def flatK (P : Program) : Nat → TypeId → Option (List (Option IntKind))
  | 0, _ => none
  | m + 1, t => match P.underlying t with
    | some (.int k) => some [some k]
    | some .bool => some [none]
    | some (.struct fs) => match flatFs (flatK P m) P 0 fs.toList with
      | some ks => if ks.length = P.cellsOf t then some ks else none
      | none => none
    | _ => none
def Leaves : List (Option IntKind) → List Value → Prop
  | [], cs => cs = []
  | some k :: r, cs => ∃ n cs', cs = .int k n :: cs' ∧ (Lit.int k n).wf = true ∧ Leaves r cs'
  | none :: r, cs => ∃ b cs', cs = .bool b :: cs' ∧ Leaves r cs'
theorem Leaves.append : ∀ {a b : List (Option IntKind)} {u v : List Value}, Leaves a u → Leaves b v → Leaves (a ++ b) (u ++ v)
  | [], b, u, v, h, g => by obtain rfl : u = [] := h; exact g
  | some k :: r, b, u, v, h, g => by
    obtain ⟨n, cs, rfl, w, h⟩ := h
    exact ⟨n, cs ++ v, rfl, w, h.append g⟩
  | none :: r, b, u, v, h, g => by
    obtain ⟨n, cs, rfl, h⟩ := h
    exact ⟨n, cs ++ v, rfl, h.append g⟩
section
variable {H : Type} {enc : TypeId × Value → H} {P : Program} {w : World} {base : Nat} {spare : Nat → Bool} {held : Bool}
theorem leavesFs {g : TypeId → Option (List (Option IntKind))} {n : Nat} {cs : List Value} (ih : ∀ t ks x cs, g t = some ks → DataW.trod enc P w base spare held n t cs = some x → Leaves ks cs) :
    ∀ {l : List Field} {o : Nat} {ks : List (Option IntKind)}, flatFs g P o l = some ks → (∀ f ∈ l, ∃ y, DataW.trod enc P w base spare held n f.type ((cs.drop f.offset).take (P.cellsOf f.type)) = some y) → cs.length = o + ks.length → Leaves ks (cs.drop o)
  | [], o, ks, h, _, hl => by
    simp only [flatFs, Option.some.injEq] at h
    subst h
    show cs.drop o = []
    exact List.drop_eq_nil_of_le (by simp at hl; omega)
  | f :: r, o, ks, h, hf, hl => by
    unfold flatFs at h
    split at h
    · rename_i ho
      split at h
      · rename_i a ha
        split at h
        · rename_i hsz
          split at h
          · rename_i b hb
            obtain rfl := Option.some.inj h
            obtain ⟨y, hy⟩ := hf f (by simp)
            have h1 := ih _ _ _ _ ha hy
            rw [ho, ← hsz] at h1
            have h2 := leavesFs ih hb (fun f hf' => hf f (by simp [hf'])) (by simp at hl; omega)
            have e : cs.drop o = (cs.drop o).take a.length ++ cs.drop (o + a.length) := by
              rw [← List.drop_drop, List.take_append_drop]
            rw [e]
            exact h1.append h2
          · cases h
        · cases h
      · cases h
    · cases h
theorem leaves : ∀ (m : Nat) {n : Nat} (t : TypeId) (ks : List (Option IntKind)) (x : DataW H × List MemPlace) (cs : List Value), flatK P m t = some ks → DataW.trod enc P w base spare held n t cs = some x → Leaves ks cs
  | 0, _, _, _, _, _, h, _ => by cases h
  | m + 1, n, t, ks, x, cs, h, hx => by
    unfold flatK at h
    split at h
    · rename_i k hk
      obtain rfl := Option.some.inj h
      obtain ⟨i, rfl, _, hw⟩ := DataW.trod_int hk hx
      exact ⟨i, [], rfl, hw, rfl⟩
    · rename_i hk
      obtain rfl := Option.some.inj h
      obtain ⟨b, rfl, _⟩ := DataW.trod_bool hk hx
      exact ⟨b, [], rfl, rfl⟩
    · rename_i fs hk
      split at h
      · rename_i ks' hks
        split at h
        · rename_i hlen
          obtain rfl := Option.some.inj h
          obtain ⟨xs, n', rfl, rfl, hl, hxl, hf⟩ := DataW.trod_struct hk hx
          have := leavesFs (cs := cs) (n := n') (fun t ks x cs => leaves m t ks x cs) hks (fun f hm => by
            obtain ⟨i, hi, rfl⟩ := List.getElem_of_mem hm
            have hi' : i < fs.size := by simpa using hi
            have h1 := hf i fs[i] (Array.getElem?_eq_getElem hi')
            have h2 : xs[i]? = some xs[i] := List.getElem?_eq_getElem (by omega)
            rw [h2] at h1
            exact ⟨_, by simpa using h1⟩) (by omega)
          simpa using this
        · cases h
      · cases h
    · cases h
theorem open_flat {r : Reach} {b0 : Nat} {t : TypeId} {fs : Array Field} {v : Value} {d : DataW H} {p : List MemPlace} {ks : List (Option IntKind)} (hs : P.underlying t = some (.struct fs)) (hk : flatK P 9 t = some ks)
    (hv : Value.okWide P w r b0 t v) (h : DataW.Trod enc P w base spare held t v d p) : ∃ cs : List Value, v = .agg cs.toArray ∧ Leaves ks cs := by
  obtain ⟨cs, rfl, hsz⟩ := okWide_struct hs hv
  obtain ⟨fuel, hf⟩ := h
  exact ⟨cs.toList, by simp, leaves 9 t ks _ _ hk (by simpa [Value.cells] using hf)⟩
end
end Go.Proofs.YtobjaddicodiaaaDoorE
end

section
/- Lists of any length in memory: owned (growing by append), or sealed. -/
namespace Go.Proofs.YtobjaddicodiaaaDoorE
open Go Go.RowKit
set_option linter.unusedVariables false
set_option linter.unusedSimpArgs false

/-- How an element lies in memory. -/
structure En (T : Type) where
  z : Nat
  en : T → List Value
  len : ∀ x, (en x).length = z
  oc : ∀ x, (en x).all (·.oneCell') = true
def encL {T : Type} (E : En T) : List T → List Value
  | [] => []
  | x :: r => E.en x ++ encL E r
section
variable {T : Type} {E : En T}
theorem encL_append (A B : List T) : encL E (A ++ B) = encL E A ++ encL E B := by
  induction A with
  | nil => rfl
  | cons x r ih => simp [encL, ih]
theorem encL_len (L : List T) : (encL E L).length = L.length * E.z := by
  induction L with
  | nil => simp [encL]
  | cons x r ih => simp [encL, ih, E.len, Nat.add_mul, Nat.add_comm]
theorem encL_oc (L : List T) : (encL E L).all (·.oneCell') = true := by
  induction L with
  | nil => rfl
  | cons x r ih => simp only [encL, List.all_append, E.oc, ih, Bool.and_self]
theorem encL_split {L : List T} {i : Nat} {x : T} (h : L[i]? = some x) : ∃ A B, A.length = i * E.z ∧ encL E L = A ++ (E.en x ++ B) ∧ ∀ y, encL E (L.set i y) = A ++ (E.en y ++ B) := by
  induction L generalizing i with
  | nil => simp at h
  | cons u r ih =>
    cases i with
    | zero => simp at h; subst h; exact ⟨[], encL E r, by simp, rfl, fun y => rfl⟩
    | succ i =>
      obtain ⟨A, B, h1, h2, h3⟩ := ih (i := i) (by simpa using h)
      exact ⟨E.en u ++ A, B, by simp [h1, E.len, Nat.add_mul, Nat.add_comm], by simp [encL, h2], fun y => by simp [encL, h3]⟩
theorem encL_at {L : List T} {i off : Nat} {x : T} {v : Value} (h : L[i]? = some x) (hv : (E.en x)[off]? = some v) : (encL E L)[i * E.z + off]? = some v := by
  obtain ⟨A, B, h1, h2, _⟩ := encL_split (E := E) h
  rw [h2, ← h1, List.getElem?_append_right (by omega), show A.length + off - A.length = off from by omega, List.getElem?_append_left (List.getElem?_eq_some_iff.1 hv).1]
  exact hv
theorem subl_mid {A M B vs : List Value} {off n : Nat} (h : subl M off n = some vs) : subl (A ++ (M ++ B)) (A.length + off) n = some vs := by
  unfold subl at h ⊢
  split at h
  · rename_i hl
    obtain rfl := Option.some.inj h
    rw [if_pos (by simp; omega), List.drop_append, List.drop_eq_nil_of_le (by omega), List.nil_append, show A.length + off - A.length = off from by omega, List.drop_append_of_le_length (by omega), List.take_append_of_le_length (by simp; omega)]
  · cases h
theorem encL_sub {L : List T} {i off n : Nat} {x : T} {vs : List Value} (h : L[i]? = some x) (hv : subl (E.en x) off n = some vs) : subl (encL E L) (i * E.z + off) n = some vs := by
  obtain ⟨A, B, h1, h2, _⟩ := encL_split (E := E) h
  rw [h2, ← h1]
  exact subl_mid hv
theorem stl_mid {A M B M' vs : List Value} {off : Nat} (h : stl M off vs = some M') : stl (A ++ (M ++ B)) (A.length + off) vs = some (A ++ (M' ++ B)) := by
  unfold stl at h ⊢
  split at h
  · rename_i hl
    obtain rfl := Option.some.inj h
    rw [if_pos (by simp; omega)]
    have e1 : List.take (A.length + off) (A ++ (M ++ B)) = A ++ M.take off := by
      rw [List.take_append, List.take_of_length_le (by omega), show A.length + off - A.length = off from by omega, List.take_append_of_le_length (by omega)]
    have e2 : List.drop (A.length + off + vs.length) (A ++ (M ++ B)) = M.drop (off + vs.length) ++ B := by
      rw [List.drop_append, List.drop_eq_nil_of_le (by omega), List.nil_append, show A.length + off + vs.length - A.length = off + vs.length from by omega, List.drop_append_of_le_length (by omega)]
    rw [e1, e2]
    simp
  · cases h
theorem encL_set {L : List T} {i off : Nat} {x x' : T} {vs : List Value} (h : L[i]? = some x) (hv : stl (E.en x) off vs = some (E.en x')) : stl (encL E L) (i * E.z + off) vs = some (encL E (L.set i x')) := by
  obtain ⟨A, B, h1, h2, h3⟩ := encL_split (E := E) h
  rw [h2, h3, ← h1]
  exact stl_mid hv
end

/-- The i-th, or nothing. -/
def lgt {T : Type} (L : List T) (i : Int) : Option T := if i < 0 then none else L[i.toNat]?
theorem lgt_in {T : Type} {L : List T} {i : Int} {x : T} (h : lgt L i = some x) : L[i.toNat]? = some x ∧ 0 ≤ i ∧ i < L.length := by
  unfold lgt at h
  split at h
  · cases h
  · rename_i h0
    have hlt := (List.getElem?_eq_some_iff.1 h).1
    exact ⟨h, by omega, by omega⟩
/-- Longer by some. -/
def lapp {T : Type} (L X : List T) : Option (List T) := if L.length + X.length ≤ 4294967296 then some (L ++ X) else none
theorem lapp_is {T : Type} {L X L' : List T} (h : lapp L X = some L') : L' = L ++ X ∧ L.length + X.length ≤ 4294967296 := by
  unfold lapp at h
  split at h
  · obtain rfl := Option.some.inj h
    exact ⟨rfl, by assumption⟩
  · cases h
/-- A part. -/
def lsub {T : Type} (L : List T) (l h : Int) : Option (List T) := if 0 ≤ l ∧ l ≤ h ∧ h ≤ L.length ∧ L ≠ [] then some ((L.drop l.toNat).take (h - l).toNat) else none
/-- The i-th set. -/
def lput {T : Type} (L : List T) (i : Int) (x : T) : Option (List T) := if 0 ≤ i ∧ i < L.length then some (L.set i.toNat x) else none
theorem lput_is {T : Type} {L L' : List T} {i : Int} {x : T} (h : lput L i x = some L') : L' = L.set i.toNat x ∧ L.length = L'.length := by
  unfold lput at h
  split at h
  · obtain rfl := Option.some.inj h
    exact ⟨rfl, by simp⟩
  · cases h
/-- So many of the same. -/
def lmk {T : Type} (x : T) (n m : Int) : Option (List T) := if 0 ≤ n ∧ n ≤ m ∧ m ≤ 4294967296 then some (List.replicate n.toNat x) else none

/-- A view of sealed memory. -/
def SlE {T : Type} (S : Seal) (E : En T) (L : List T) (a : Option Addr) : Prop := L = [] ∨ ∃ b o l, a = some ⟨b, o, none⟩ ∧ S b = some l ∧ ∀ (i : Nat) (x : T), L[i]? = some x → subl l (o + i * E.z) E.z = some (E.en x)
/-- A view of an owned block's cells. -/
def SlV {T : Type} (E : En T) (L : List T) (cs : List Value) (o : Nat) : Prop := ∀ (i : Nat) (x : T), L[i]? = some x → subl cs (o + i * E.z) E.z = some (E.en x)
section
variable {T : Type} {E : En T}
theorem subl_all {l : List Value} {n : Nat} (h : l.length = n) : subl l 0 n = some l := by
  unfold subl
  rw [if_pos (by omega)]
  subst h
  simp
theorem SlV.all (L : List T) : SlV E L (encL E L) 0 := fun i x h => by
  have := encL_sub (off := 0) h (subl_all (E.len x))
  simpa using this
theorem SlE.mono {S S' : Seal} {L : List T} {a : Option Addr} (h : SlE S E L a) (hle : ∀ b l, S b = some l → S' b = some l) : SlE S' E L a := by
  rcases h with h | ⟨b, o, l, ha, hS, hl⟩
  · exact Or.inl h
  · exact Or.inr ⟨b, o, l, ha, hle b l hS, hl⟩
theorem SlE.nil {S : Seal} {a : Option Addr} : SlE S E [] a := Or.inl rfl
theorem SlE.of {S : Seal} {L : List T} {cs : List Value} {a : Option Nat} {o : Nat} (hv : SlV E L cs o) (hz : 0 < E.z) (hS : cs = [] ∨ ∃ b, a = some b ∧ S b = some cs) : SlE S E L (some ⟨bk a, o, none⟩) := by
  rcases hS with rfl | ⟨b, rfl, hb⟩
  · cases L with
    | nil => exact Or.inl rfl
    | cons x r =>
      have := hv 0 x rfl
      unfold subl at this
      split at this
      · rename_i h; simp at h; omega
      · cases this
  · exact Or.inr ⟨b, o, cs, rfl, hb, hv⟩
theorem SlE.ofAd {S : Seal} {L : List T} {a : Option Nat} (hS : encL E L = [] ∨ ∃ b, a = some b ∧ S b = some (encL E L)) (hz : 0 < E.z) : SlE S E L (ad a) := by
  rcases hS with h | ⟨b, rfl, hb⟩
  · have := congrArg List.length h
    rw [encL_len] at this
    simp only [List.length_nil, Nat.mul_eq_zero] at this
    exact Or.inl (List.length_eq_zero_iff.1 (by omega))
  · exact Or.inr ⟨b, 0, _, rfl, hb, SlV.all L⟩
theorem SlV.get {L : List T} {cs : List Value} {q : Nat} {i : Int} {x : T} (h : SlV E L cs q) (hx : lgt L i = some x) : subl cs (q + i.toNat * E.z) E.z = some (E.en x) ∧ 0 ≤ i ∧ i < L.length := ⟨h _ _ (lgt_in hx).1, (lgt_in hx).2⟩
theorem subl_at {l vs : List Value} {p z off : Nat} {v : Value} (h : subl l p z = some vs) (hv : vs[off]? = some v) : l[p + off]? = some v := (subl_get h).2 _ _ hv
theorem subl_sub {l vs us : List Value} {p z off n : Nat} (h : subl l p z = some vs) (hv : subl vs off n = some us) : subl l (p + off) n = some us := by
  unfold subl at h hv ⊢
  split at h
  · rename_i h1
    obtain rfl := Option.some.inj h
    split at hv
    · rename_i h2
      obtain rfl := Option.some.inj hv
      simp only [List.length_take, List.length_drop] at h2
      rw [if_pos (by omega), List.drop_take, List.drop_drop, List.take_take]
      congr 2
      omega
    · cases hv
  · cases h
theorem subl_jn {l A B : List Value} {p m n : Nat} (h1 : subl l p m = some A) (h2 : subl l (p + m) n = some B) : subl l p (m + n) = some (A ++ B) := by
  unfold subl at h1 h2 ⊢
  split at h1
  · obtain rfl := Option.some.inj h1
    split at h2
    · obtain rfl := Option.some.inj h2
      rw [if_pos (by omega), List.take_add, List.drop_drop]
    · cases h2
  · cases h1
/-- Four elements in a row. -/
theorem SlV.arr4 {L : List T} {cs : List Value} {q : Nat} {x0 x1 x2 x3 : T} (h : SlV E L cs q) (h0 : lgt L 0 = some x0) (h1 : lgt L 1 = some x1) (h2 : lgt L 2 = some x2) (h3 : lgt L 3 = some x3) :
    subl cs q (E.z + E.z + E.z + E.z) = some (E.en x0 ++ E.en x1 ++ E.en x2 ++ E.en x3) ∧ 4 ≤ L.length := by
  have g0 := (h.get h0).1
  have g1 := (h.get h1).1
  have g2 := (h.get h2).1
  obtain ⟨g3, _, k3⟩ := h.get h3
  have e0 : q + Int.toNat 0 * E.z = q := by simp
  have e1 : q + Int.toNat 1 * E.z = q + E.z := by simp
  have e2 : q + Int.toNat 2 * E.z = q + (E.z + E.z) := by simp [Nat.two_mul]
  have e4 : Int.toNat 3 * E.z = E.z + E.z + E.z := by simp [Nat.succ_mul]
  have e3 : q + Int.toNat 3 * E.z = q + (E.z + E.z + E.z) := by rw [e4]
  rw [e0] at g0
  rw [e1] at g1
  rw [e2] at g2
  rw [e3] at g3
  exact ⟨subl_jn (subl_jn (subl_jn g0 g1) g2) g3, by omega⟩
/-- An element of a sealed list. -/
theorem sle_get {S : Seal} {L : List T} {a : Option Addr} {i : Int} {x : T} (h : SlE S E L a) (hx : lgt L i = some x) :
    ∃ b o l, a = some ⟨b, o, none⟩ ∧ S b = some l ∧ subl l (o + i.toNat * E.z) E.z = some (E.en x) ∧ 0 ≤ i ∧ i < L.length := by
  obtain ⟨h1, h2, h3⟩ := lgt_in hx
  rcases h with rfl | ⟨b, o, l, ha, hS, hl⟩
  · simp at h1
  · exact ⟨b, o, l, ha, hS, hl _ _ h1, h2, h3⟩
end
def eI (k : IntKind) : En Int := ⟨1, fun x => [.int k x], fun _ => rfl, fun _ => rfl⟩
theorem SlI.e {S : Seal} {k : IntKind} {L : List Int} {a : Option Addr} (h : SlI S k L a) : SlE S (eI k) L a := by
  rcases h with h | ⟨b, o, l, ha, hS, hl⟩
  · exact Or.inl h
  · refine Or.inr ⟨b, o, l, ha, hS, fun i x hx => ?_⟩
    have := hl i x hx
    have hlt := (List.getElem?_eq_some_iff.1 this).1
    show subl l (o + i * 1) 1 = some [.int k x]
    unfold subl
    rw [Nat.mul_one, if_pos (by omega), List.drop_eq_getElem_cons hlt]
    simp [(List.getElem?_eq_some_iff.1 this).2]

section
variable {α : Type} {P : Program} {N : Nat} {all : Array Oper} {r : List O} {o : O} {σ : Sl} {H : List Own} {S : Seal} {Q : Pst} {c : C} {Qs : Qst}
/-- What is plain of memory may be used. -/
theorem t_pure {p : Prop} {ops : List O} (hp : ∀ w, HOK H S w → p) (h : p → T P N all ops σ H S Q) : T P N all ops σ H S Q :=
  fun L hL ts w R hσ hN hH hR => h (hp w hH) L hL ts w R hσ hN hH hR
theorem HOK.someB {w : World} (hH : HOK H S w) {j : Nat} {a : Option Nat} {cs : List Value} {M : Nat} (he : H[j]? = some ⟨a, cs, M⟩) (h0 : cs ≠ []) : a = some (bk a) := by
  rcases hH.own _ (List.mem_of_getElem? he) with ⟨_, h, _⟩ | ⟨b, h, _⟩
  · exact absurd h h0
  · simp only at h; subst h; rfl
theorem HOK.noB {w : World} (hH : HOK H S w) {j : Nat} {cs : List Value} {M : Nat} (he : H[j]? = some ⟨Option.none, cs, M⟩) : cs = [] ∧ M = 0 := by
  rcases hH.own _ (List.mem_of_getElem? he) with ⟨_, h, g⟩ | ⟨b, h, _⟩
  · exact ⟨h, g⟩
  · cases h
theorem HOK.le {w : World} (hH : HOK H S w) {j : Nat} {a : Option Nat} {cs : List Value} {M : Nat} (he : H[j]? = some ⟨a, cs, M⟩) : cs.length ≤ M := by
  rcases hH.own _ (List.mem_of_getElem? he) with ⟨_, h, g⟩ | ⟨b, h, _, _, _, _, g, _⟩
  · simp only at h; simp [h]
  · exact g
theorem VS.vac : VS H S (⟨Option.none, [], 0⟩ :: H) S := fun w h =>
  ⟨⟨fun e he => by
    rcases List.mem_cons.1 he with rfl | he
    · exact Or.inl ⟨rfl, rfl, rfl⟩
    · exact h.own e he, by simpa [bs] using h.nd, fun b hb => h.dis b (by simpa [bs] using hb), h.seal_, fun b hb => ⟨fun hm => (h.pl_ b hb).1 (by simpa [bs] using hm), (h.pl_ b hb).2⟩⟩, ⟨Ext.refl _ _, fun b hb => Or.inl (by simpa [bs] using hb), fun _ _ h => Or.inl h, fun _ _ h => h, rfl⟩⟩
theorem t_eq {σ' : Sl} {H' : List Own} {ops : List O} (e : σ = σ') (e2 : H = H') (h : T P N all ops σ' H' S Q) : T P N all ops σ H S Q := by subst e e2; exact h
theorem encL_ne {E : En α} {L : List α} (h0 : 0 < E.z) (h : L ≠ []) : encL E L ≠ [] := fun e => by
  have := congrArg List.length e
  rw [encL_len] at this
  simp only [List.length_nil, Nat.mul_eq_zero] at this
  rcases this with g | g
  · exact h (List.length_eq_zero_iff.1 g)
  · omega

/-- A slice's array. -/
theorem s2a_q {n len cp : Nat} {a : Option Addr} {x : Operand} (hx : ev σ x = some (.slice a len cp)) (h : n ≤ len) : qv H S σ (.s2a n x) = some (.pointer a) := by
  simp only [qv]
  rw [hx]
  exact if_pos h
/-- A place of an owned list. -/
theorem ixl {E : En α} {L : List α} {j z n cp M : Nat} {a : Option Nat} {v : Int} {t : α} {kk : IntKind} {x i : Operand} (hx : ev σ x = some (.slice (ad a) n cp)) (hi : ev σ i = some (.int kk v)) (he : H[j]? = some ⟨a, encL E L, M⟩) (hz0 : 0 < E.z) (hn : n = L.length) (hg : lgt L v = some t) :
    ∀ w, HOK H S w → qv H S σ (.ixs z x i) = some (.pointer (some ⟨bk a, v.toNat * z + 0, none⟩)) := by
  intro w hH
  obtain ⟨h1, h2, h3⟩ := lgt_in hg
  have ha := hH.someB he (encL_ne hz0 (fun h => by subst h; simp at h1))
  obtain ⟨b, rfl⟩ : ∃ b, a = some b := ⟨_, ha⟩
  simp only [qv]
  rw [hx, hi]
  simp only [ad, Option.map_some]
  rw [if_pos ⟨h2, by omega⟩]
  simp [bk]
/-- A place of a sealed list. -/
theorem ixs_sle {x i : Operand} {kk : IntKind} {v : Int} {a : Option Addr} {n cp b q z : Nat} (hx : ev σ x = some (.slice a n cp)) (hi : ev σ i = some (.int kk v)) (ha : a = some ⟨b, q, none⟩) (h0 : 0 ≤ v) (h1 : v < n) : qv H S σ (.ixs z x i) = some (.pointer (some ⟨b, q + v.toNat * z + 0, none⟩)) := ixs_sl hx hi ha h0 h1

/-- A bound that is there, or isn't. -/
def Bd (σ : Sl) (l : Option Operand) (d v : Int) : Prop := (l = none ∧ v = d) ∨ ∃ ol k, l = some ol ∧ ev σ ol = some (.int k v)
theorem Bd.no {d : Int} : Bd σ none d d := Or.inl ⟨rfl, rfl⟩
theorem Bd.is {x : Operand} {k : IntKind} {v d : Int} (h : ev σ x = some (.int k v)) : Bd σ (some x) d v := Or.inr ⟨x, k, rfl, h⟩
theorem qv_sls {b q n cp z : Nat} {lo hi : Int} {x : Operand} {l h : Option Operand} (hx : ev σ x = some (.slice (some ⟨b, q, none⟩) n cp)) (hl : Bd σ l 0 lo) (hh : Bd σ h n hi) (h0 : 0 ≤ lo) (h1 : lo ≤ hi) (h2 : hi ≤ n) (h3 : n ≤ cp) :
    qv H S σ (.sls z x l h) = some (.slice (some (if cp = lo.toNat then ⟨b, q, none⟩ else ⟨b, q + lo.toNat * z, none⟩)) (hi.toNat - lo.toNat) (cp - lo.toNat)) := by
  have b1 : ∀ (y : Nat) (k : IntKind) (v : Int), 0 ≤ v → v ≤ y → bnd y (.int k v) = some v.toNat := fun y k v g1 g2 => by simp [bnd, g1, g2]
  have hmin : min n cp = n := by omega
  rcases hl with ⟨rfl, rfl⟩ | ⟨ol, k, rfl, g⟩ <;> rcases hh with ⟨rfl, rfl⟩ | ⟨oh, k2, rfl, g2⟩
  · simp only [qv, evo]
    rw [hx]
    simp
  · simp only [qv, evo, g2]
    rw [hx]
    simp only [hmin]
    rw [b1 n k2 hi (by omega) h2]
    simp
  · simp only [qv, evo, g]
    rw [hx]
    simp only
    rw [b1 n k lo h0 h1]
    simp
  · simp only [qv, evo, g, g2]
    rw [hx]
    simp only [hmin]
    rw [b1 n k2 hi (by omega) h2]
    simp only
    rw [b1 hi.toNat k lo h0 (by omega)]
/-- Where a part begins, and its room. -/
def cq (M z : Nat) (lo : Int) : Nat := if M / z = lo.toNat then 0 else lo.toNat * z
def cc (M z : Nat) (lo : Int) : Nat := M / z - lo.toNat
theorem cutV {E : En α} {L L' : List α} {z M : Nat} {lo hi : Int} (hz : E.z = z) (hz0 : 0 < z) (hM : (encL E L).length ≤ M) (hs : lsub L lo hi = some L') : SlV E L' (encL E L) (cq M z lo) := by
  subst hz
  unfold lsub at hs
  split at hs
  · rename_i hc
    obtain ⟨c0, c1, c2, c3⟩ := hc
    obtain rfl := Option.some.inj hs
    rw [encL_len] at hM
    have hcap : L.length ≤ M / E.z := (Nat.le_div_iff_mul_le hz0).2 hM
    have hlen : ((L.drop lo.toNat).take (hi - lo).toNat).length = hi.toNat - lo.toNat := by simp; omega
    intro i x hx'
    have hi' := (List.getElem?_eq_some_iff.1 hx').1
    rw [hlen] at hi'
    rw [List.getElem?_take, if_pos (by omega), List.getElem?_drop] at hx'
    have hsub := SlV.all (E := E) L _ _ hx'
    unfold cq
    rw [if_neg (by omega), ← Nat.add_mul]
    simpa using hsub
  · cases hs
theorem cutQ {E : En α} {L L' : List α} {z M j : Nat} {a : Option Nat} {lo hi : Int} {x : Operand} {l h : Option Operand} (hz : E.z = z) (hz0 : 0 < z) (hs : lsub L lo hi = some L') (hx : ev σ x = some (.slice (ad a) L.length (M / z))) (hl : Bd σ l 0 lo) (hh : Bd σ h L.length hi) (he : H[j]? = some ⟨a, encL E L, M⟩) :
    ∀ w, HOK H S w → qv H S σ (.sls z x l h) = some (.slice (some ⟨bk a, cq M z lo, none⟩) L'.length (cc M z lo)) := by
  intro w hH
  have hM := hH.le he
  subst hz
  unfold lsub at hs
  split at hs
  · rename_i hc
    obtain ⟨c0, c1, c2, c3⟩ := hc
    obtain rfl := Option.some.inj hs
    rw [encL_len] at hM
    have hcap : L.length ≤ M / E.z := (Nat.le_div_iff_mul_le hz0).2 hM
    have hlen : ((L.drop lo.toNat).take (hi - lo).toNat).length = hi.toNat - lo.toNat := by simp; omega
    have ha := hH.someB he (encL_ne hz0 c3)
    obtain ⟨b, rfl⟩ : ∃ b, a = some b := ⟨_, ha⟩
    rw [qv_sls (b := b) (q := 0) hx hl hh c0 c1 c2 hcap, hlen]
    simp only [bk, Option.getD_some, Nat.zero_add]
    unfold cq cc
    split <;> rfl
  · cases hs
theorem le4 {L : List α} {x : α} (h : lgt L 3 = some x) : 4 ≤ L.length := by have := (lgt_in h).2.2; omega
theorem w_pure {p : Prop} (hp : ∀ w, HOK H S w → p) (h : p → W P N c σ H S Qs) : W P N c σ H S Qs := by
  intro code hc ts w R hσ hN hH hR
  exact h (hp w hH) code hc ts w R hσ hN hH hR
/-- A part of a sealed list. -/
theorem cuts {E : En α} {L L' : List α} {z cp : Nat} {a : Option Addr} {lo hi : Int} {x : Operand} {l h : Option Operand} (hx : ev σ x = some (.slice a L.length cp)) (hl : Bd σ l 0 lo) (hh : Bd σ h L.length hi)
    (hv : SlE S E L a) (hc : L.length ≤ cp) (hz : E.z = z) (hs : lsub L lo hi = some L') :
    ∃ a' cp', qv H S σ (.sls z x l h) = some (.slice a' L'.length cp') ∧ SlE S E L' a' ∧ L'.length ≤ cp' := by
  subst hz
  unfold lsub at hs
  split at hs
  · rename_i hcc
    obtain ⟨c0, c1, c2, c3⟩ := hcc
    obtain rfl := Option.some.inj hs
    have hlen : ((L.drop lo.toNat).take (hi - lo).toNat).length = hi.toNat - lo.toNat := by simp; omega
    rcases hv with rfl | ⟨b, q, cs, rfl, hS, hv⟩
    · exact absurd rfl c3
    · refine ⟨_, _, by rw [qv_sls hx hl hh c0 c1 c2 hc, hlen], Or.inr ⟨b, if cp = lo.toNat then q else q + lo.toNat * E.z, cs, by split <;> rfl, hS, ?_⟩, by rw [hlen]; omega⟩
      intro i x hx'
      have hi' := (List.getElem?_eq_some_iff.1 hx').1
      rw [hlen] at hi'
      rw [List.getElem?_take, if_pos (by omega), List.getElem?_drop] at hx'
      have hsub := hv _ _ hx'
      rw [if_neg (by omega), Nat.add_assoc, ← Nat.add_mul]
      exact hsub
  · cases hs

/-- A store into an element of an owned list. -/
theorem t_stl (j : Nat) {E : En α} {L L' : List α} {a : Option Nat} {M n k off : Nat} {i : Int} {y0 y1 : α} {x y : Operand} {v : Value} {H' : List Own} (hk : o.k = .st n x y) (hw : wtd σ o.g = some true) (hx : ev σ x = some (.pointer (some ⟨bk a, k, none⟩))) (hy : ev σ y = some v) (he : H[j]? = some ⟨a, encL E L, M⟩)
    (hl : (cl v).length = n) (h1 : (cl v).all (·.oneCell') = true) (hz0 : 0 < E.z) (hk2 : k = i.toNat * E.z + off) (hg : lgt L i = some y0) (hs : stl (E.en y0) off (cl v) = some (E.en y1)) (hp : lput L i y1 = some L') (hH' : H.set j ⟨a, encL E L', M⟩ = H') (h : T P N all r (pt σ o.d undef) H' S Q) : T P N all (o :: r) σ H S Q := by
  obtain ⟨g1, g2, g3⟩ := lgt_in hg
  obtain ⟨rfl, _⟩ := lput_is hp
  refine t_pure (p := a = some (bk a)) (fun w hH => hH.someB he (encL_ne hz0 (fun h => by subst h; simp at g1))) fun ha => ?_
  obtain ⟨b, rfl⟩ : ∃ b, a = some b := ⟨_, ha⟩
  subst hk2
  exact t_sti j hk hw hx hy he hl h1 (encL_set g1 hs) hH' h

/-- Longer by what is known. -/
theorem t_appX {E : En α} {L X L' : List α} {e : TypeId} {z bytes m c M : Nat} {zero : List Value} {a : Option Nat} {a2 : Option Addr} {F : List Own} {x y : Operand} (hk : o.k = .app e z bytes zero x y) (hw : wtd σ o.g = some true) (hx : ev σ x = some (.slice (ad a) L.length (M / z))) (hy : ev σ y = some (.slice a2 m c))
    (hp : H.Perm ([⟨a, encL E L, M⟩] ++ F)) (hm : m = X.length) (hn : X = [] ∨ ∃ b2 k2, a2 = some ⟨b2, k2, none⟩ ∧ Rn H S b2 k2 (m * z) (encL E X)) (hz : E.z = z) (hz0 : 0 < z) (hby : bytes ≤ 32768) (hzz : zero.length = z) (hl : lapp L X = some L')
    (h : ∀ a' M', T P N all r (pt σ o.d (.slice (ad a') L'.length (M' / z))) (⟨a', encL E L', M'⟩ :: F) S Q) : T P N all (o :: r) σ H S Q := by
  subst hz hm
  obtain ⟨rfl, hb⟩ := lapp_is hl
  by_cases hX : X = []
  · subst hX
    refine t_op (fun e => by rw [hk] at e; cases e) hw ?_
    intro p ts w K R hkp hd hlt hσ hH hK
    obtain ⟨dst, op, type, pos, after, guard⟩ := p
    rw [hk] at hkp
    obtain ⟨cl_, t, u, i, v, rfl, hc, h1, h2, hu1, hu2, hi, hzz2, hne, hsz, rfl, rfl⟩ := toK_app hkp
    have hHp : HOK (⟨a, encL E L, M⟩ :: F) S w := hH.perm hp
    have hcap : L.length ≤ M / E.z := (Nat.le_div_iff_mul_le hz0).2 (by have := hHp.le (j := 0) rfl; rwa [encL_len] at this)
    have hf : ∀ q, (Builtin.firstCells q 0 (.slice a2 0 c)).run P w = .ok #[] w := by
      intro q
      cases a2 with
      | none => simp [Builtin.firstCells]
      | some ad2 => exact run_firstCells_some (P := P) w q 0 ad2 0 c [] (by simp) (fun j v h => by simp at h)
    have hrun : (Builtin.append_ #[t, u] type #[.slice (ad a) L.length (M / E.z), .slice a2 0 c]).run P w = .ok (.slice (ad a) L.length (M / E.z)) w := by
      rw [app_types hu1 hu2 hi]
      cases a with
      | none =>
        simp only [ad, Option.map_none]
        have h0 := (hHp.noB (j := 0) rfl)
        have hL : L.length = 0 := by have := congrArg List.length h0.1; rw [encL_len] at this; simp only [List.length_nil, Nat.mul_eq_zero] at this; omega
        rw [hL, h0.2]
        simp [Builtin.append_, run_underlying hu1, sizeOf, typeInfo, hi, Builtin.lenOf, hf]
      | some b =>
        simp only [ad, Option.map_some]
        simp [Builtin.append_, run_underlying hu1, sizeOf, typeInfo, hi, Builtin.lenOf, hcap, hf, storeCells]
    unfold Oper.wp
    rw [run_app hc h1 h2 (ev_ok hσ hx) (ev_ok hσ hy) hrun, Oper.upon_value, hd]
    have hT := h a M
    simp only [List.append_nil] at hT
    exact hK _ _ _ _ _ (hσ.pt (fun t ht => hlt t (by rw [hd]; exact ht)) []) hHp ((Step.refl _ _ _).toPerm hp) hT
  · obtain ⟨b2, k2, rfl, hn2⟩ := hn.resolve_left hX
    have h0 : 0 < X.length := List.length_pos_iff.2 hX
    have hbb : (L.length + X.length) * bytes ≤ 4294967296 * 32768 := Nat.mul_le_mul hb hby
    have hlen : (L ++ X).length = L.length + X.length := List.length_append
    cases a with
    | none =>
      refine t_pure (p := encL E L = [] ∧ M = 0) (fun w hH => (hH.perm hp).noB (j := 0) rfl) fun hq => ?_
      have hL : L = [] := by
        cases L with
        | nil => rfl
        | cons t r => exact absurd hq.1 (encL_ne hz0 (by simp))
      subst hL
      obtain ⟨_, rfl⟩ := hq
      have h1 : X.length * bytes ≤ 281474976710656 := by simp only [List.length_nil, Nat.zero_add] at hbb; omega
      refine t_app0 hk hw (by rw [hx]; simp [ad]) hy hn2 h0 (by simp only [List.length_nil, Nat.zero_add] at hb; omega) h1 hzz fun b n _ _ => ?_
      have hT := h (some b) n
      refine t_vs (H' := ⟨some b, encL E ([] ++ X), n⟩ :: F) (S' := S) ?_ hT
      refine VS.cons ((VS.perm (hp.trans List.perm_append_comm)).trans VS.drop)
    | some b =>
      refine t_app1 hk hw hx hy hp hn2 (encL_oc X) (encL_len L) rfl (by omega) (by omega) hzz fun b' M' => ?_
      have hT := h (some b') M'
      rw [hlen, encL_append] at hT
      exact hT
/-- What is laid behind: out of an owned list, a sealed one, a part of an owned one. -/
theorem apO {E : En α} {w : World} (hH : HOK H S w) {j M z : Nat} {a : Option Nat} {X : List α} (he : H[j]? = some ⟨a, encL E X, M⟩) (hz : E.z = z) (hz0 : 0 < z) : X = [] ∨ ∃ b k, ad a = some ⟨b, k, none⟩ ∧ Rn H S b k (X.length * z) (encL E X) := by
  subst hz
  by_cases hX : X = []
  · exact Or.inl hX
  · have := hH.someB he (encL_ne hz0 hX)
    obtain ⟨b, rfl⟩ : ∃ b, a = some b := ⟨_, this⟩
    exact Or.inr ⟨b, 0, rfl, Rn.at j he (subl_all (encL_len X))⟩
/-- A slice made, of a length that is no number. -/
theorem t_mkl {E : En α} {x0 : α} {L' : List α} {z bytes : Nat} {zero : List Value} {l c : Operand} {kl kc : IntKind} {n m : Int} (hk : o.k = .mks z bytes zero l c) (hw : wtd σ o.g = some true) (hl : ev σ l = some (.int kl n)) (hc : ev σ c = some (.int kc m)) (hz : E.z = z) (hz0 : 0 < z) (hby : bytes ≤ 32768) (hzero : E.en x0 = zero) (hm : lmk x0 n m = some L')
    (h : ∀ b M, T P N all r (pt σ o.d (.slice (ad (some b)) L'.length (M / z))) (⟨some b, encL E L', M⟩ :: H) S Q) : T P N all (o :: r) σ H S Q := by
  subst hz hzero
  unfold lmk at hm
  split at hm
  · rename_i hb
    obtain rfl := Option.some.inj hm
    obtain ⟨h0, h1, h2⟩ := hb
    have hbb : (bytes : Int) * m ≤ 32768 * 4294967296 := Int.mul_le_mul (by omega) h2 (by omega) (by omega)
    refine t_mks hk hw hl hc h0 h1 (by omega) (by omega) rfl fun b _ _ => ?_
    have hT := h b (m.toNat * E.z)
    rw [List.length_replicate, Nat.mul_div_cancel _ hz0] at hT
    refine t_vs (H' := ⟨some b, encL E (List.replicate n.toNat x0), m.toNat * E.z⟩ :: H) (S' := S) (fun w hH => ?_) hT
    have hmade : ∀ (i : Nat) (v : Value), (encL E (List.replicate n.toNat x0))[i]? = some v → (madeL (E.en x0) (m.toNat * E.z))[i]? = some v := by
      intro i v hv
      have hlt := (List.getElem?_eq_some_iff.1 hv).1
      rw [encL_len, List.length_replicate] at hlt
      have hd : i / E.z < n.toNat := Nat.div_lt_of_lt_mul (by rwa [Nat.mul_comm])
      have hi : i = i / E.z * E.z + i % E.z := by have := Nat.div_add_mod i E.z; rw [Nat.mul_comm] at this; omega
      have hmod : i % E.z < (E.en x0).length := by rw [E.len]; exact Nat.mod_lt _ hz0
      have h3 : (List.replicate n.toNat x0)[i / E.z]? = some x0 := by rw [List.getElem?_replicate, if_pos hd]
      have h4 := encL_at (E := E) h3 (List.getElem?_eq_getElem hmod)
      rw [← hi, hv] at h4
      obtain rfl := Option.some.inj h4
      unfold madeL
      have hlt2 : i < m.toNat * E.z := Nat.lt_of_lt_of_le hlt (Nat.mul_le_mul_right _ (by omega))
      rw [List.getElem?_map, List.getElem?_range hlt2]
      simp only [Option.map_some, E.len]
      rw [List.getD_eq_getElem?_getD, List.getElem?_eq_getElem hmod]
      rfl
    exact ⟨hH.pre hmade (by rw [encL_len, List.length_replicate]; exact Nat.mul_le_mul_right _ (by omega)), (Step.refl _ _ _).names rfl (fun e he => by
      rcases List.mem_cons.1 he with rfl | he
      · exact ⟨_, List.mem_cons_self, rfl⟩
      · exact ⟨e, List.mem_cons_of_mem _ he, rfl⟩)⟩
  · cases hm

end
end Go.Proofs.YtobjaddicodiaaaDoorE
end

section
/- Lists whose elements lead to lists: what may be read, owned blocks in forests. Own work. -/
namespace Go.Proofs.YtobjaddicodiaaaDoorE
open Go Go.RowKit
set_option linter.unusedVariables false
set_option linter.unusedSimpArgs false

/-- What may be read. -/
abbrev Rd := Nat → List Value → Prop
/-- Out of a forest of owned blocks, or out of what is sealed. -/
def rdOf (F : List Own) (S : Seal) : Rd := fun b l => (∃ e, e ∈ F ∧ e.b = some b ∧ e.cs = l) ∨ S b = some l
/-- How an element lies in memory, where its parts may lead further. -/
structure Nn (T : Type) where
  z : Nat
  rep : Rd → T → List Value → Prop
  len : ∀ {R : Rd} {x : T} {vs : List Value}, rep R x vs → vs.length = z
  oc : ∀ {R : Rd} {x : T} {vs : List Value}, rep R x vs → vs.all (·.oneCell') = true
  mono : ∀ {R R' : Rd} {x : T} {vs : List Value}, (∀ b l, R b l → R' b l) → rep R x vs → rep R' x vs
def flatN {T : Type} (E : En T) : Nn T := ⟨E.z, fun _ x vs => vs = E.en x, fun h => by rw [h]; exact E.len _, fun h => by rw [h]; exact E.oc _, fun _ h => h⟩
/-- A view of readable memory. -/
def SlN {T : Type} (R : Rd) (E : Nn T) (L : List T) (a : Option Addr) : Prop :=
  L = [] ∨ ∃ b o l, a = some ⟨b, o, none⟩ ∧ R b l ∧ ∀ (i : Nat) (x : T), L[i]? = some x → ∃ vs, subl l (o + i * E.z) E.z = some vs ∧ E.rep R x vs
/-- An owned block's cells. -/
structure RL {T : Type} (R : Rd) (E : Nn T) (L : List T) (cs : List Value) : Prop where
  len : cs.length = L.length * E.z
  oc : cs.all (·.oneCell') = true
  at_ : ∀ (i : Nat) (x : T), L[i]? = some x → ∃ vs, subl cs (i * E.z) E.z = some vs ∧ E.rep R x vs
section
variable {T : Type} {R R' : Rd} {E : Nn T} {L X L' : List T} {a : Option Addr} {cs ds vs : List Value} {F F' : List Own} {S S' : Seal} {x : T}
theorem SlN.mono (h : SlN R E L a) (le : ∀ b l, R b l → R' b l) : SlN R' E L a := by
  rcases h with h | ⟨b, o, l, ha, hR, hl⟩
  · exact Or.inl h
  · exact Or.inr ⟨b, o, l, ha, le b l hR, fun i x hx => by obtain ⟨vs, h1, h2⟩ := hl i x hx; exact ⟨vs, h1, E.mono le h2⟩⟩
theorem RL.mono (h : RL R E L cs) (le : ∀ b l, R b l → R' b l) : RL R' E L cs :=
  ⟨h.len, h.oc, fun i x hx => by obtain ⟨vs, h1, h2⟩ := h.at_ i x hx; exact ⟨vs, h1, E.mono le h2⟩⟩
theorem SlN.nil : SlN R E [] a := Or.inl rfl
theorem RL.nil : RL R E [] [] := ⟨by simp, rfl, fun i x h => by simp at h⟩
theorem RL.one (h : E.rep R x vs) : RL R E [x] vs := ⟨by simp [E.len h], E.oc h, fun i y hy => by
  cases i with
  | zero => simp at hy; subst hy; exact ⟨vs, by simpa using subl_all (E.len h), h⟩
  | succ i => simp at hy⟩
theorem subl_left {A B vs : List Value} {o n : Nat} (h : subl A o n = some vs) : subl (A ++ B) o n = some vs := by
  unfold subl at h ⊢
  split at h
  · rename_i hl
    obtain rfl := Option.some.inj h
    rw [if_pos (by simp; omega), List.drop_append_of_le_length (by omega), List.take_append_of_le_length (by simp; omega)]
  · cases h
theorem subl_right {A B vs : List Value} {o n : Nat} (h : subl B o n = some vs) : subl (A ++ B) (A.length + o) n = some vs := by
  unfold subl at h ⊢
  split at h
  · rename_i hl
    obtain rfl := Option.some.inj h
    rw [if_pos (by simp; omega), List.drop_append, List.drop_eq_nil_of_le (by omega), List.nil_append, show A.length + o - A.length = o from by omega]
  · cases h
theorem RL.app (h : RL R E L cs) (g : RL R E X ds) : RL R E (L ++ X) (cs ++ ds) := by
  refine ⟨by rw [List.length_append, List.length_append, h.len, g.len, Nat.add_mul], by rw [List.all_append, h.oc, g.oc]; rfl, fun i x hx => ?_⟩
  by_cases hi : i < L.length
  · rw [List.getElem?_append_left hi] at hx
    obtain ⟨vs, h1, h2⟩ := h.at_ i x hx
    exact ⟨vs, subl_left h1, h2⟩
  · rw [List.getElem?_append_right (by omega)] at hx
    obtain ⟨vs, h1, h2⟩ := g.at_ _ x hx
    refine ⟨vs, ?_, h2⟩
    have := subl_right (A := cs) h1
    rw [h.len, ← Nat.add_mul, show L.length + (i - L.length) = i from by omega] at this
    exact this
theorem RL.lapp (h : RL R E L cs) (g : RL R E X ds) (hl : lapp L X = some L') : RL R E L' (cs ++ ds) := by
  obtain ⟨rfl, _⟩ := lapp_is hl
  exact h.app g
/-- Numbers that are flat. -/
theorem RL.flat {E : En T} : RL R (flatN E) L (encL E L) := ⟨encL_len L, encL_oc L, fun i x hx => ⟨_, by show subl (encL E L) (i * E.z) E.z = _; have := encL_sub (E := E) (off := 0) hx (subl_all (E.len x)); simpa using this, rfl⟩⟩
/-- An owned block, by its own forest. -/
theorem SlN.own {b : Option Nat} (h : RL R E L cs) (hb : cs ≠ [] → b = some (bk b)) (hz : 0 < E.z) (hR : ∀ k, b = some k → R k cs) : SlN R E L (ad b) := by
  by_cases hL : L = []
  · exact Or.inl hL
  · have hc : cs ≠ [] := fun e => by
      have := h.len
      rw [e] at this
      have h2 : 0 < L.length := List.length_pos_iff.2 hL
      have := Nat.mul_pos h2 hz
      simp at *
      omega
    have hb2 := hb hc
    refine Or.inr ⟨bk b, 0, cs, by rw [hb2]; rfl, hR _ hb2, fun i x hx => ?_⟩
    obtain ⟨vs, h1, h2⟩ := h.at_ i x hx
    exact ⟨vs, by simpa using h1, h2⟩
theorem sln_get {i : Int} (h : SlN R E L a) (hx : lgt L i = some x) :
    ∃ b o l vs, a = some ⟨b, o, none⟩ ∧ R b l ∧ subl l (o + i.toNat * E.z) E.z = some vs ∧ E.rep R x vs ∧ 0 ≤ i ∧ i < L.length := by
  obtain ⟨h1, h2, h3⟩ := lgt_in hx
  rcases h with rfl | ⟨b, o, l, ha, hR, hl⟩
  · simp at h1
  · obtain ⟨vs, g1, g2⟩ := hl _ _ h1
    exact ⟨b, o, l, vs, ha, hR, g1, g2, h2, h3⟩
theorem SlE.ofN {E : En T} (h : SlN (rdOf [] S) (flatN E) L a) : SlE S E L a := by
  rcases h with h | ⟨b, o, l, ha, hR, hl⟩
  · exact Or.inl h
  · rcases hR with ⟨e, he, _⟩ | hR
    · cases he
    · exact Or.inr ⟨b, o, l, ha, hR, fun i x hx => by obtain ⟨vs, h1, h2⟩ := hl i x hx; rw [show vs = E.en x from h2] at h1; exact h1⟩
/-! ### readings compared -/
abbrev RdLe (R R' : Rd) : Prop := ∀ b l, R b l → R' b l
theorem rd_sub (h : ∀ e, e ∈ F → e ∈ F') : RdLe (rdOf F S) (rdOf F' S) := fun b l hr => hr.imp (fun ⟨e, a, q⟩ => ⟨e, h e a, q⟩) id
theorem rd_n {H : List Own} {b o n : Nat} {l : List Value} {vs : List Value} (hr : rdOf F S b l) (hF : ∀ e, e ∈ F → e ∈ H) (hv : subl l o n = some vs) : Rn H S b o n vs := by
  rcases hr with ⟨e, he, hb, hl⟩ | hr
  · exact Or.inl ⟨e, hF e he, by rw [hb]; rfl, by rw [hl]; exact hv⟩
  · exact Or.inr ⟨l, hr, hv⟩
end

/-! ### blocks and forests in another order -/
inductive HT where
  | l (es : List Own)
  | f (F : List Own)
  | a (x y : HT)
def HT.den : HT → List Own
  | .l es => es
  | .f F => F
  | .a x y => x.den ++ y.den
def HT.flat : HT → List (List Own)
  | .l es => es.map fun e => [e]
  | .f F => [F]
  | .a x y => x.flat ++ y.flat
theorem HT.flat_den : ∀ t : HT, t.flat.flatten = t.den
  | .l es => by
    simp only [flat, den]
    induction es with
    | nil => rfl
    | cons e r ih => rw [List.map_cons, List.flatten_cons, ih]; rfl
  | .f F => by simp [flat, den]
  | .a x y => by simp only [flat, den, List.flatten_append, flat_den x, flat_den y]
def selF : List Nat → List (List Own) → Option (List (List Own) × List (List Own))
  | [], H => some ([], H)
  | i :: is, H => match H[i]? with
    | some e => match selF is (H.eraseIdx i) with
      | some (A, F) => some (e :: A, F)
      | none => none
    | none => none
theorem eiF_perm {α : Type} : ∀ {H : List α} {i : Nat} {e : α}, H[i]? = some e → H.Perm (e :: H.eraseIdx i)
  | [], i, e, h => by simp at h
  | a :: H, 0, e, h => by simp at h; subst h; exact List.Perm.refl _
  | a :: H, i + 1, e, h => by
    simp only [List.getElem?_cons_succ] at h
    exact (List.Perm.cons a (eiF_perm h)).trans (List.Perm.swap e a _)
theorem selF_perm : ∀ {is : List Nat} {H A F : List (List Own)}, selF is H = some (A, F) → H.Perm (A ++ F)
  | [], H, A, F, h => by simp only [selF, Option.some.injEq, Prod.mk.injEq] at h; obtain ⟨rfl, rfl⟩ := h; exact List.Perm.refl _
  | i :: is, H, A, F, h => by
    unfold selF at h
    split at h
    · rename_i e he
      split at h
      · rename_i A' F' hs
        simp only [Option.some.injEq, Prod.mk.injEq] at h
        obtain ⟨rfl, rfl⟩ := h
        exact (eiF_perm he).trans (List.Perm.cons e (selF_perm hs))
      · cases h
    · cases h
/-- All of a tree's blocks as those of two others. -/
theorem tree_perm (t u v : HT) (is : List Nat) (h : selF is t.flat = some (u.flat, v.flat)) : t.den.Perm (u.den ++ v.den) := by
  have := (selF_perm h).flatten
  rw [List.flatten_append, t.flat_den, u.flat_den, v.flat_den] at this
  exact this
/-- The same, where the rest is not told. -/
def selFA (is : List Nat) (H : List (List Own)) : Option (List (List Own)) := match selF is H with
  | some (A, _) => some A
  | none => none
theorem VS.treeA {S : Seal} (t u : HT) (is : List Nat) (h : selFA is t.flat = some u.flat) : VS t.den S u.den S := by
  unfold selFA at h
  split at h
  · rename_i A F hs
    obtain rfl := Option.some.inj h
    have := (selF_perm hs).flatten
    rw [List.flatten_append, t.flat_den, u.flat_den] at this
    exact (VS.perm this).trans VS.drop
  · cases h

/-- Some of the first n blocks; what follows them stays. -/
def selT (n : Nat) (is : List Nat) (H : List Own) : Option (List Own) := match sel is (H.take n) with
  | some (A, _) => some (A ++ H.drop n)
  | none => none
theorem VS.selT (n : Nat) (is : List Nat) {H H' : List Own} {S : Seal} (h : selT n is H = some H') : VS H S H' S := by
  unfold YtobjaddicodiaaaDoorE.selT at h
  split at h
  · rename_i A F hs
    obtain rfl := Option.some.inj h
    have p : H.Perm ((A ++ H.drop n) ++ F) := by
      have q := sel_perm hs
      rw [← List.take_append_drop n H]
      refine (List.Perm.append_right _ q).trans ?_
      rw [List.append_assoc, List.append_assoc, List.take_append_drop]
      exact List.Perm.append_left _ List.perm_append_comm
    exact (VS.perm p).trans VS.drop
  · cases h

/-! ### a forest lent -/
section
variable {P : Program} {N : Nat} {all : Array Oper} {r : List O} {o : O} {σ : Sl} {H : List Own} {S : Seal} {Q : Pst}
/-- A block lent for reading. -/
theorem cal_lendX {f : FuncId} {args : List Value} {e : Own} {A : List Own} {Qc : Value → List Own → Prop}
    (h : ∀ S' : Seal, (∀ b l, S b = some l → S' b = some l) → S'.pl = S.pl → (∀ b, e.b = some b → S' b = some e.cs) → (e.cs = [] ∨ ∃ b, e.b = some b ∧ S' b = some e.cs) → (∀ b l, S' b = some l → S b = some l ∨ (e.b = some b ∧ e.cs = l)) → Cal P f args A S' fun v H' S'' => Qc v H' ∧ S'' = S') :
    Cal P f args (e :: A) S fun v H' S'' => (∃ H0, H' = e :: H0 ∧ Qc v H0) ∧ S'' = S := by
  obtain ⟨a, cs, n⟩ := e
  intro w hH
  have hle : ∀ b l, S b = some l → sealed S a cs b = some l := hH.sealB.2.sold
  have hS : ∀ b, a = some b → sealed S a cs b = some cs := fun b hb => by simp only [sealed]; rw [if_pos hb]
  have hx : ∀ b l, sealed S a cs b = some l → S b = some l ∨ (a = some b ∧ cs = l) := fun b l hb => by
    simp only [sealed] at hb
    split at hb
    · rename_i e1; exact Or.inr ⟨e1, Option.some.inj hb⟩
    · exact Or.inl hb
  have hS2 : cs = [] ∨ ∃ b, a = some b ∧ sealed S a cs b = some cs := by
    by_cases hc : cs = []
    · exact Or.inl hc
    · have := hH.someB (j := 0) rfl hc
      exact Or.inr ⟨bk a, this, hS _ this⟩
  refine (h (sealed S a cs) hle rfl hS hS2 hx w hH.sealB.1).mono ?_
  rintro e w' ⟨v, H', S'', rfl, ⟨q, rfl⟩, h1, st⟩
  have hnd := hH.nd
  have hb : ∀ b, a = some b → b ∉ bs A ∧ b < w.heap.size := fun b hb => by
    subst hb
    rw [bs_some, List.nodup_cons] at hnd
    exact ⟨hnd.1, hH.blt (by rw [bs_some]; exact List.mem_cons_self)⟩
  have hb' : ∀ b, a = some b → b ∉ bs H' := fun b hab hm => by
    rcases st.new b hm with g | g
    · exact (hb b hab).1 g
    · have := (hb b hab).2; omega
  have hsub : ∀ b ∈ bs A, b ∈ bs (⟨a, cs, n⟩ :: A) := fun b hm => by obtain ⟨e, he, g⟩ := mem_bs.1 hm; exact mem_bs.2 ⟨e, List.mem_cons_of_mem _ he, g⟩
  refine ⟨v, ⟨a, cs, n⟩ :: H', S, rfl, ⟨⟨H', rfl, q⟩, rfl⟩, ⟨?_, ?_, ?_, fun b l hl => h1.seal_ b l (hle b l hl), fun b hb => ⟨fun hm => ?_, (h1.pl_ b hb).2⟩⟩, ⟨⟨st.ext.os, st.ext.tape, st.ext.output, st.ext.size, fun k hk hO => st.ext.block k hk (fun hm => hO (hsub k hm))⟩, ?_, fun _ _ h => Or.inl h, fun _ _ h => h, rfl⟩⟩
  · intro e he
    rcases List.mem_cons.1 he with rfl | he
    · exact Own.keep (hH.own _ List.mem_cons_self) st.ext (fun b hab => (hb b hab).1)
    · exact h1.own e he
  · cases a with
    | none => simpa [bs] using h1.nd
    | some b => rw [bs_some, List.nodup_cons]; exact ⟨hb' b rfl, h1.nd⟩
  · intro b hm
    obtain ⟨e, he, g⟩ := mem_bs.1 hm
    rcases List.mem_cons.1 he with rfl | he
    · exact hH.dis b (mem_bs.2 ⟨_, List.mem_cons_self, g⟩)
    · have := h1.dis b (mem_bs.2 ⟨e, he, g⟩)
      cases hs : S b with
      | none => rfl
      | some l => rw [hle b l hs] at this; cases this
  · obtain ⟨e, he, g⟩ := mem_bs.1 hm
    rcases List.mem_cons.1 he with rfl | he
    · exact (hH.pl_ b hb).1 (mem_bs.2 ⟨_, List.mem_cons_self, g⟩)
    · exact (h1.pl_ b hb).1 (mem_bs.2 ⟨e, he, g⟩)
  · intro b hm
    obtain ⟨e, he, g⟩ := mem_bs.1 hm
    rcases List.mem_cons.1 he with rfl | he
    · exact Or.inl (mem_bs.2 ⟨_, List.mem_cons_self, g⟩)
    · rcases st.new b (mem_bs.2 ⟨e, he, g⟩) with g | g
      · exact Or.inl (hsub b g)
      · exact Or.inr g
theorem cal_lendF {f : FuncId} {args : List Value} {Qc : Value → List Own → Prop} : ∀ (F : List Own) {S : Seal} {A : List Own},
    (∀ S' : Seal, (∀ b l, S b = some l → S' b = some l) → S'.pl = S.pl → (∀ e, e ∈ F → ∀ b, e.b = some b → S' b = some e.cs) → (∀ e, e ∈ F → e.cs = [] ∨ ∃ b, e.b = some b ∧ S' b = some e.cs) → (∀ b l, S' b = some l → S b = some l ∨ ∃ e, e ∈ F ∧ e.b = some b ∧ e.cs = l) → Cal P f args A S' fun v H' S'' => Qc v H' ∧ S'' = S') →
    Cal P f args (F ++ A) S fun v H' S'' => (∃ H0, H' = F ++ H0 ∧ Qc v H0) ∧ S'' = S
  | [], S, A, h => (h S (fun _ _ h => h) rfl (fun e he => by cases he) (fun e he => by cases he) (fun _ _ h => Or.inl h)).mono fun v H' S'' ⟨a, b⟩ => ⟨⟨H', rfl, a⟩, b⟩
  | e :: F, S, A, h => by
    intro w hH
    have hS1 : ∀ b l, S b = some l → sealed S e.b e.cs b = some l := hH.sealB.2.sold
    have hdis : ∀ b, e.b = some b → S b = none := fun b hb => hH.dis b (mem_bs.2 ⟨e, List.mem_cons_self, hb⟩)
    refine (cal_lendX (e := e) (A := F ++ A) (Qc := fun v H' => ∃ H0, H' = F ++ H0 ∧ Qc v H0) (fun S1 le1 hp1 hs1 hn1 ex1 => ?_) w hH).mono ?_
    · refine cal_lendF F (S := S1) (A := A) fun S' le hp hs hn ex => h S' (fun b l hb => le b l (le1 b l hb)) (hp.trans hp1) ?_ ?_ ?_
      · intro e' he' b hb
        rcases List.mem_cons.1 he' with rfl | he'
        · exact le b _ (hs1 b hb)
        · exact hs e' he' b hb
      · intro e' he'
        rcases List.mem_cons.1 he' with rfl | he'
        · exact hn1.imp id (fun ⟨b, q1, q2⟩ => ⟨b, q1, le b _ q2⟩)
        · exact hn e' he'
      · intro b l hb
        rcases ex b l hb with hb | ⟨e', he', q⟩
        · rcases ex1 b l hb with hb | ⟨hb, hl⟩
          · exact Or.inl hb
          · exact Or.inr ⟨e, List.mem_cons_self, hb, hl⟩
        · exact Or.inr ⟨e', List.mem_cons_of_mem _ he', q⟩
    · rintro ex w' ⟨v, H', S', hv, ⟨⟨H0, rfl, H1, rfl, q⟩, rfl⟩, a, b⟩
      exact ⟨v, _, _, hv, ⟨⟨H1, rfl, q⟩, rfl⟩, a, b⟩
/-- The same, where nothing changes. -/
theorem cal_lendFr {f : FuncId} {args : List Value} {u : Value} (F : List Own) {S : Seal} {A : List Own}
    (h : ∀ S' : Seal, (∀ b l, S b = some l → S' b = some l) → S'.pl = S.pl → (∀ e, e ∈ F → ∀ b, e.b = some b → S' b = some e.cs) → (∀ e, e ∈ F → e.cs = [] ∨ ∃ b, e.b = some b ∧ S' b = some e.cs) → (∀ b l, S' b = some l → S b = some l ∨ ∃ e, e ∈ F ∧ e.b = some b ∧ e.cs = l) → Cal P f args A S' fun v H' S'' => v = u ∧ H' = A ∧ S'' = S') :
    Cal P f args (F ++ A) S fun v H' S'' => v = u ∧ H' = F ++ A ∧ S'' = S :=
  (cal_lendF (Qc := fun v H' => v = u ∧ H' = A) F fun S' h1 h0 h2 h3 h4 => (h S' h1 h0 h2 h3 h4).mono fun _ _ _ ⟨x, y, z⟩ => ⟨⟨x, y⟩, z⟩).mono fun _ _ _ ⟨⟨_, x, y, z⟩, q⟩ => ⟨y, by rw [x, z], q⟩
/-- What may be read of what is lent. -/
theorem rd_lend {F G : List Own} {S' : Seal} (hs : ∀ e, e ∈ G → ∀ b, e.b = some b → S' b = some e.cs) (le : ∀ b l, S b = some l → S' b = some l) (hF : ∀ e, e ∈ F → e ∈ G) : RdLe (rdOf F S) (rdOf [] S') := fun b l hr => by
  rcases hr with ⟨e, he, hb, hl⟩ | hr
  · exact Or.inr (by rw [hs e (hF e he) b hb, hl])
  · exact Or.inr (le b l hr)
theorem sub_nil {F : List Own} : ∀ e, e ∈ ([] : List Own) → e ∈ F := fun _ h => by cases h
theorem sub_cons {x : Own} {F G : List Own} (h : x ∈ G) (t : ∀ e, e ∈ F → e ∈ G) : ∀ e, e ∈ x :: F → e ∈ G := fun e he => by
  rcases List.mem_cons.1 he with rfl | he
  · exact h
  · exact t e he
theorem sub_app {A F G : List Own} (h : ∀ e, e ∈ A → e ∈ G) (t : ∀ e, e ∈ F → e ∈ G) : ∀ e, e ∈ A ++ F → e ∈ G := fun e he => (List.mem_append.1 he).elim (h e) (t e)
theorem seg_hd {F X : List Own} : ∀ e, e ∈ F → e ∈ F ++ X := fun _ h => List.mem_append_left _ h
theorem seg_tl {F A X : List Own} (h : ∀ e, e ∈ F → e ∈ X) : ∀ e, e ∈ F → e ∈ A ++ X := fun e he => List.mem_append_right _ (h e he)
theorem seg_in {F X G : List Own} (n : Nat) (h : G.drop n = X) (g : ∀ e, e ∈ F → e ∈ X) : ∀ e, e ∈ F → e ∈ G := fun e he => List.mem_of_mem_drop (i := n) (by rw [h]; exact g e he)
theorem mem_at {x : Own} {G : List Own} (i : Nat) (h : G[i]? = some x) : x ∈ G := List.mem_of_getElem? h
/-- A state of a region that draws is met. -/
theorem t_fin (L : List Nat) {G : Sl → List Own → Prop} {σ' : Sl} (g : G σ' H) (e : keep L σ = σ') : T P N all [] σ H S fun σ1 H1 S1 => G σ1 H1 ∧ S1 = S := t_keep L e (t_end ⟨g, rfl⟩)
def uE (zs : List Value) (h : zs.all (·.oneCell') = true) : En Int := ⟨zs.length, fun _ => zs, fun _ => rfl, fun _ => h⟩
theorem t_fin0 {G : Sl → List Own → Prop} (g : G σ H) : T P N all [] σ H S fun σ1 H1 S1 => G σ1 H1 ∧ S1 = S := t_end ⟨g, rfl⟩
def evl (σ : Sl) (z : List Value) (ps : List (Nat × Nat × Operand)) : Option (List Value) := match evp σ ps with
  | some vs => lay z vs
  | none => none
theorem dv_bsl {z cs : List Value} {n : Nat} {ps : List (Nat × Nat × Operand)} (hw : wtd σ o.g = some true) (h : o.k = .bsl z n ps) (e : evl σ z ps = some cs) : DV P H S σ o (.a cs (slTo n)) := by
  unfold evl at e
  split at e
  · rename_i vs hv
    exact .bsl hw h hv e
  · cases e
theorem t_someB (j : Nat) {a : Option Nat} {cs : List Value} {M : Nat} {ops : List O} (he : H[j]? = some ⟨a, cs, M⟩) (h : (cs ≠ [] → a = some (bk a)) → T P N all ops σ H S Q) : T P N all ops σ H S Q :=
  t_pure (fun w hH => HOK.someB hH he) h
theorem w_someB (j : Nat) {a : Option Nat} {cs : List Value} {M : Nat} {c : C} {Qs : Qst} (he : H[j]? = some ⟨a, cs, M⟩) (h : (cs ≠ [] → a = some (bk a)) → W P N c σ H S Qs) : W P N c σ H S Qs :=
  w_pure (fun w hH => HOK.someB hH he) h

/-- Longer by elements that may lead further. -/
theorem t_appN {α : Type} {R : Rd} {E : Nn α} {L X L' : List α} {cs ds : List Value} {e : TypeId} {z bytes m c M b2 k2 : Nat} {zero : List Value} {a : Option Nat} {F : List Own} {x y : Operand} (hk : o.k = .app e z bytes zero x y) (hw : wtd σ o.g = some true) (hx : ev σ x = some (.slice (ad a) L.length (M / z))) (hy : ev σ y = some (.slice (some ⟨b2, k2, none⟩) m c))
    (hp : H.Perm ([⟨a, cs, M⟩] ++ F)) (hL : RL R E L cs) (hX : RL R E X ds) (hm : m = X.length) (h0 : 0 < m) (hn : Rn H S b2 k2 (m * z) ds) (hz : E.z = z) (hz0 : 0 < z) (hby : bytes ≤ 32768) (hzz : zero.length = z) (hl : lapp L X = some L')
    (h : ∀ a' M' cs', RL R E L' cs' → T P N all r (pt σ o.d (.slice (ad a') L'.length (M' / z))) (⟨a', cs', M'⟩ :: F) S Q) : T P N all (o :: r) σ H S Q := by
  have happ := hL.lapp hX hl
  subst hz hm
  obtain ⟨rfl, hb⟩ := lapp_is hl
  have hbb : (L.length + X.length) * bytes ≤ 4294967296 * 32768 := Nat.mul_le_mul hb hby
  have hlen : (L ++ X).length = L.length + X.length := List.length_append
  cases a with
  | none =>
    refine t_pure (p := cs = [] ∧ M = 0) (fun w hH => (hH.perm hp).noB (j := 0) rfl) fun hq => ?_
    obtain ⟨rfl, rfl⟩ := hq
    have hL0 : L = [] := by
      have := hL.len
      simp only [List.length_nil] at this
      rcases Nat.mul_eq_zero.1 this.symm with g | g
      · exact List.length_eq_zero_iff.1 g
      · omega
    subst hL0
    have h1 : X.length * bytes ≤ 281474976710656 := by simp only [List.length_nil, Nat.zero_add] at hbb; omega
    refine t_app0 hk hw (by rw [hx]; simp [ad]) hy hn h0 (by simp only [List.length_nil, Nat.zero_add] at hb; omega) h1 hzz fun b n _ _ => ?_
    have hT := h (some b) n _ happ
    refine t_vs (H' := ⟨some b, [] ++ ds, n⟩ :: F) (S' := S) ?_ hT
    refine VS.cons ((VS.perm (hp.trans List.perm_append_comm)).trans VS.drop)
  | some b =>
    refine t_app1 hk hw hx hy hp hn hX.oc hL.len rfl (by omega) (by omega) hzz fun b' M' => ?_
    have hT := h (some b') M' _ happ
    rw [hlen] at hT
    exact hT
end
end Go.Proofs.YtobjaddicodiaaaDoorE
end

section
/- Errors that package variables hold: a code for each. Own work. -/
namespace Go.Proofs.YtobjaddicodiaaaDoorE
open Go Go.RowKit
set_option linter.unusedVariables false
set_option linter.unusedSimpArgs false
/-- An error by its code: 0 is nil; g + 1 is what variable g holds: a pointer of type T to a place of its own. -/
def errV (T : TypeId) (A : Int → Addr) (c : Int) : Value := if c = 0 then .nilIface else .iface T (.pointer (some (A c)))
structure EO (gs : List Nat) (S : Seal) (A : Int → Addr) (T : TypeId) : Prop where
  cell : ∀ g, g ∈ gs → ∃ l, S g = some l ∧ l[0]? = some (.iface T (.pointer (some (A ((g : Int) + 1)))))
  pl : ∀ g, g ∈ gs → S.pl (A ((g : Int) + 1)).block
  inj : ∀ g, g ∈ gs → ∀ h, h ∈ gs → A ((g : Int) + 1) = A ((h : Int) + 1) → g = h
theorem EO.at_ {gs : List Nat} {S : Seal} {A : Int → Addr} {T : TypeId} (h : EO gs S A T) {H : List Own} (g : Nat) (hg : g ∈ gs) : R1 H S g 0 (.iface T (.pointer (some (A ((g : Int) + 1))))) := by
  obtain ⟨l, h1, h2⟩ := h.cell g hg
  exact .sealed h1 h2
theorem EO.atc {gs : List Nat} {S : Seal} {A : Int → Addr} {T : TypeId} (h : EO gs S A T) {H : List Own} (g : Nat) (c : Int) (hg : g ∈ gs) (hc : (g : Int) + 1 = c) : R1 H S g 0 (.iface T (.pointer (some (A c)))) := by subst hc; exact h.at_ g hg
theorem EO.mono {gs : List Nat} {S S' : Seal} {A : Int → Addr} {T : TypeId} (h : EO gs S A T) (le : ∀ b l, S b = some l → S' b = some l) (hp : S'.pl = S.pl) : EO gs S' A T :=
  ⟨fun g hg => by obtain ⟨l, h1, h2⟩ := h.cell g hg; exact ⟨l, le _ _ h1, h2⟩, fun g hg => by rw [hp]; exact h.pl g hg, h.inj⟩
def isI (P : Program) (t : TypeId) : Bool := match P.underlying t with
  | some (.interface _) => true
  | _ => false
theorem eqErr {P : Program} {t : TypeId} {x y : Operand} {A : Int → Addr} {T : TypeId} {c : Int} (hu : isI P t = true) (hc : isC y = true) : eqV P t x y (errV T A c) .nilIface = some (c == 0) := by
  unfold isI at hu
  split at hu
  · rename_i ms hm
    unfold errV
    by_cases h : c = 0
    · rw [if_pos h]; subst h; simp [eqV, hm, hc]
    · rw [if_neg h]; simp [eqV, hm, h]
  · cases hu
/-- A type of pointers to what has a size, held at an interface's type. -/
def ptrT (P : Program) (t T : TypeId) : Bool := match P.underlying t, P.underlying T, P.info? T with
  | some (.interface _), some (.pointer e), some i => i.comparable && (match P.info? e with
    | some j => j.size != 0
    | none => false)
  | _, _, _ => false
theorem ptrT_is {P : Program} {t T : TypeId} (h : ptrT P t T = true) : ∃ ms e i j, P.underlying t = some (.interface ms) ∧ P.underlying T = some (.pointer e) ∧ P.info? T = some i ∧ i.comparable = true ∧ P.info? e = some j ∧ j.size ≠ 0 := by
  unfold ptrT at h
  split at h
  · rename_i ms e i h1 h2 h3
    simp only [Bool.and_eq_true] at h
    obtain ⟨h4, h5⟩ := h
    split at h5
    · rename_i j h6
      exact ⟨ms, e, i, j, h1, h2, h3, h4, h6, by simpa using h5⟩
    · cases h5
  · cases h
theorem eqp_same {P : Program} {S : Seal} {t T : TypeId} {a : Addr} (h : ptrT P t T = true) : EqP P S t (.iface T (.pointer (some a))) (.iface T (.pointer (some a))) true := by
  obtain ⟨ms, e, i, j, h1, h2, h3, h4, h5, _⟩ := ptrT_is h
  exact ⟨⟨_, _, _, _, rfl, rfl⟩, fun w hp => run_equalIn_iface_ptr_same w 9998 a h1 h2 h3 h4 h5⟩
theorem eqp_other {P : Program} {S : Seal} {t T : TypeId} {gs : List Nat} {A : Int → Addr} (hE : EO gs S A T) (g k : Nat) (hg : g ∈ gs) (hk : k ∈ gs) (hne : g ≠ k) (h : ptrT P t T = true) : EqP P S t (.iface T (.pointer (some (A ((g : Int) + 1))))) (.iface T (.pointer (some (A ((k : Int) + 1))))) false := by
  obtain ⟨ms, e, i, j, h1, h2, h3, h4, h5, h6⟩ := ptrT_is h
  refine ⟨⟨_, _, _, _, rfl, rfl⟩, fun w hp => ?_⟩
  obtain ⟨ca, ta, ha⟩ := hp _ (hE.pl g hg)
  obtain ⟨cb, tb, hb⟩ := hp _ (hE.pl k hk)
  exact run_equalIn_iface_ptr_other w 9998 h1 h2 h3 h4 h5 h6 (fun he => hne (hE.inj g hg k hk he)) ha hb
/-- A code that is listed. -/
def isL (gs : List Nat) (c : Int) : Bool := gs.any fun g => (g : Int) + 1 == c
theorem isL_is {gs : List Nat} {c : Int} (h : ¬ isL gs c = false) : ∃ g, g ∈ gs ∧ (g : Int) + 1 = c := by
  unfold isL at h
  simpa using h
theorem eqp_sym {P : Program} {S : Seal} {t T : TypeId} {gs : List Nat} {A : Int → Addr} (hE : EO gs S A T) {c d : Int} (hc : ¬ isL gs c = false) (hd : ¬ isL gs d = false) (h : ptrT P t T = true) : EqP P S t (errV T A c) (errV T A d) (c == d) := by
  obtain ⟨g, hg, rfl⟩ := isL_is hc
  obtain ⟨k, hk, rfl⟩ := isL_is hd
  have e1 : errV T A ((g : Int) + 1) = .iface T (.pointer (some (A ((g : Int) + 1)))) := if_neg (by omega)
  have e2 : errV T A ((k : Int) + 1) = .iface T (.pointer (some (A ((k : Int) + 1)))) := if_neg (by omega)
  rw [e1, e2]
  by_cases hgk : g = k
  · subst hgk
    rw [beq_self_eq_true]
    exact eqp_same h
  · rw [show ((g : Int) + 1 == (k : Int) + 1) = false from by simp; omega]
    exact eqp_other hE g k hg hk hgk h
section
variable {P : Program} {H : List Own} {S : Seal} {σ : Sl} {o : O}
theorem dv_tas {t T : TypeId} {z : Value} {x : Operand} {A : Int → Addr} {c : Int} (hw : wtd σ o.g = some true) (hk : o.k = .tas t true z x) (hx : ev σ x = some (errV T A c)) (hne : T ≠ t) : DV P H S σ o (.v (.tuple #[z, .bool false])) := by
  refine dv_quiet hw ?_
  rw [hk]
  simp only [qv]
  rw [hx]
  unfold errV
  split
  · rename_i u v he
    split at he
    · cases he
    · simp only [Option.some.injEq, Value.iface.injEq] at he
      obtain ⟨rfl, _⟩ := he
      rw [if_neg hne]
      rfl
  · rfl
  · rename_i h1 h2
    split at h1 <;> split at h2 <;> first | exact absurd rfl (h2 _) | (exfalso; simp_all)
end
end Go.Proofs.YtobjaddicodiaaaDoorE
end

section
/- A law's errors out of what its card lays. Own work. -/
namespace Go.Proofs.YtobjaddicodiaaaDoorE
open Go Go.RowKit
set_option linter.unusedVariables false
set_option linter.unusedSimpArgs false
/-- Variables that are laid as errors of one make. -/
inductive LS (P : Program) (ti : TypeId) (nm : String) : List Nat → List (String × DataW Unit) → Prop
  | nil : LS P ti nm [] []
  | cons {n : String} {g : Nat} {t : List UInt8} {gs : List Nat} {r : List (String × DataW Unit)} (h1 : P.globalNamed n = some g) (h2 : (P.globals[g]?).map (·.type) = some ti) (h : LS P ti nm gs r) : LS P ti nm (g :: gs) ((n, .iface nm (.ptr (.agg [.lit (.string t)]))) :: r)
structure ST (P : Program) (ti tp : TypeId) (nm : String) : Prop where
  ex : ∃ (te ts : TypeId) (ms : Array (String × TypeId)) (f : Field), P.underlying ti = some (.interface ms) ∧ (∀ u, P.typeName? 3 u = some nm → u = tp) ∧ P.underlying tp = some (.pointer te) ∧ P.underlying te = some (.struct #[f]) ∧ f.type = ts ∧ f.offset = 0 ∧ P.underlying ts = some .string ∧ P.cellsOf te = 1 ∧ P.cellsOf ts = 1
def plc (x : Nat × Addr) : List MemPlace := [.cell x.1 0, .cell x.2.block x.2.off]
theorem ls_open {P : Program} {ti tp : TypeId} {nm : String} {W : World} (hT : ST P ti tp nm) : ∀ {gs : List Nat} {laid : List (String × DataW Unit)} {ps : List MemPlace}, LS P ti nm gs laid → DataW.LaidVars P W laid ps →
    (∀ b off, MemPlace.cell b off ∈ ps → (∃ c t, W.heap[b]? = some (.cells c t (0, 0))) ∧ ∀ u v, W.cell? ⟨b, off, none⟩ = some (.iface u v) → Value.okWide P W .any 0 u v) →
    ∃ as : List Addr, as.length = gs.length ∧ ps = (gs.zip as).flatMap plc ∧ ∀ x ∈ gs.zip as, W.cell? ⟨x.1, 0, none⟩ = some (.iface tp (.pointer (some x.2))) ∧ ∃ s, W.cell? x.2 = some (.string s)
  | [], _, ps, .nil, h, _ => ⟨[], rfl, by simpa [DataW.LaidVars] using h, by simp⟩
  | g :: gs, _, ps, .cons h1 h2 hr, h, hok => by
    obtain ⟨g', t', cs, fuel, p, q, e1, e2, hv, hd, hq, rfl⟩ := h
    obtain rfl := Option.some.inj (h1.symm.trans e1)
    obtain rfl := Option.some.inj (h2.symm.trans e2)
    obtain ⟨te, ts, ms, f, t1, t2, t3, t4, t5, t6, t7, t8, t9⟩ := hT.ex
    have hcs : ∃ u v, cs.toList = [.iface u v] := by
      obtain ⟨_, u, v, e, _⟩ := iface_of_trod t1 hd
      exact ⟨u, v, e⟩
    obtain ⟨u, v, hcs⟩ := hcs
    have hsz : cs.size = 1 := by have := congrArg List.length hcs; simpa using this
    have hcell : ∀ off, W.cell? ⟨g, off, none⟩ = cs[off]? := fun off => World.var?_cell h1 hv off
    have hc0 : W.cell? ⟨g, 0, none⟩ = some (.iface u v) := by
      rw [hcell, ← Array.getElem?_toList, hcs]
      rfl
    obtain ⟨a, s, ha, hs, _, _, rfl⟩ := errorString_of_trod t1 t2 t3 t4 t5 t6 t7 t8 t9 hd (fun u' v' e => (hok g 0 (by simp [MemPlace.row, hsz])).2 u' v' (by rw [hc0]; rw [hcs] at e; simp at e; simp [e]))
    obtain ⟨as, k1, rfl, k3⟩ := ls_open hT hr hq (fun b off hm => hok b off (List.mem_append_right _ hm))
    rw [hcs] at ha
    obtain ⟨rfl, rfl⟩ : u = tp ∧ v = .pointer (some a) := by simpa using ha
    refine ⟨a :: as, by simp [k1], ?_, ?_⟩
    · simp [plc, MemPlace.row, hsz, List.range_succ]
    · intro x hx
      rcases List.mem_cons.1 hx with rfl | hx
      · exact ⟨hc0, s, hs⟩
      · exact k3 x hx
theorem nodup_apart {α β : Type} {f : α → List β} {x y : α} {z : β} : ∀ {l : List α}, (l.flatMap f).Nodup → x ∈ l → y ∈ l → x ≠ y → z ∈ f x → z ∈ f y → False
  | [], _, h, _, _, _, _ => by cases h
  | u :: l, hn, hx, hy, hne, zx, zy => by
    rw [List.flatMap_cons, List.nodup_append] at hn
    obtain ⟨n1, n2, n3⟩ := hn
    rcases List.mem_cons.1 hx with rfl | hx1 <;> rcases List.mem_cons.1 hy with rfl | hy1
    · exact hne rfl
    · exact n3 z zx z (List.mem_flatMap.2 ⟨y, hy1, zy⟩) rfl
    · exact n3 z zy z (List.mem_flatMap.2 ⟨x, hx1, zx⟩) rfl
    · exact nodup_apart n2 hx1 hy1 hne zx zy
theorem mem_zip_of {α β : Type} : ∀ {l : List α} {m : List β} {a : α}, m.length = l.length → a ∈ l → ∃ b, (a, b) ∈ l.zip m
  | [], _, _, _, h => by cases h
  | x :: l, [], _, hl, _ => by simp at hl
  | x :: l, y :: m, a, hl, h => by
    rcases List.mem_cons.1 h with rfl | h
    · exact ⟨y, by simp⟩
    · obtain ⟨b, hb⟩ := mem_zip_of (m := m) (by simpa using hl) h
      exact ⟨b, by simp [hb]⟩
/-- The errors' codes and places, of a world that lays them. -/
theorem eo_laid {P : Program} {ti tp : TypeId} {nm : String} {W : World} {gs : List Nat} {laid : List (String × DataW Unit)} (hT : ST P ti tp nm) (hl : LS P ti nm gs laid) (h : laidMet P laid W) :
    ∃ (pl : Nat → Prop) (A : Int → Addr), HOK [] (sealW W pl) W ∧ EO gs (sealW W pl) A tp := by
  classical
  obtain ⟨ps, hv, hnd, hok⟩ := h
  obtain ⟨as, k1, rfl, k3⟩ := ls_open hT hl hv hok
  have hz : ∀ g, g ∈ gs → ∃ a, (g, a) ∈ gs.zip as := fun g hg => mem_zip_of k1 hg
  let A : Int → Addr := fun c => if hc : ∃ a, (c.toNat - 1, a) ∈ gs.zip as then hc.choose else ⟨0, 0, none⟩
  have hA : ∀ g, g ∈ gs → (g, A ((g : Int) + 1)) ∈ gs.zip as := by
    intro g hg
    have e : ((g : Int) + 1).toNat - 1 = g := by omega
    have hc : ∃ a, (((g : Int) + 1).toNat - 1, a) ∈ gs.zip as := by rw [e]; exact hz g hg
    have : A ((g : Int) + 1) = hc.choose := dif_pos hc
    rw [this]
    have hs := hc.choose_spec
    generalize hc.choose = q at hs ⊢
    rw [e] at hs
    exact hs
  have hpl : ∀ g, g ∈ gs → ∃ c t, W.heap[(A ((g : Int) + 1)).block]? = some (.cells c t (0, 0)) := fun g hg => (hok _ (A ((g : Int) + 1)).off (List.mem_flatMap.2 ⟨_, hA g hg, by simp [plc]⟩)).1
  refine ⟨fun b => ∃ g, g ∈ gs ∧ (A ((g : Int) + 1)).block = b, A, hokW fun b hb => ?_, ⟨fun g hg => ?_, fun g hg => ⟨g, hg, rfl⟩, fun g hg k hk he => ?_⟩⟩
  · obtain ⟨g, hg, rfl⟩ := hb
    obtain ⟨c, t, hc⟩ := hpl g hg
    exact ⟨c, t, hc⟩
  · have hc := (k3 _ (hA g hg)).1
    obtain ⟨c, T, z, h1, _, h2⟩ := cell_block hc
    exact ⟨c.toList, sealW_at h1, by simpa using h2⟩
  · by_cases hgk : g = k
    · exact hgk
    · exfalso
      refine nodup_apart (f := plc) (x := (g, A ((g : Int) + 1))) (y := (k, A ((k : Int) + 1))) (z := .cell (A ((g : Int) + 1)).block (A ((g : Int) + 1)).off) hnd (hA g hg) (hA k hk) (fun e => hgk (Prod.mk.inj e).1) (by simp [plc]) (by rw [he]; simp [plc])
end Go.Proofs.YtobjaddicodiaaaDoorE
end

section
/- Short words for the steps that a walk takes most often. Own work. -/
namespace Go.Proofs.YtobjaddicodiaaaDoorE
open Go Go.RowKit
set_option linter.unusedVariables false
section
variable {P : Program} {N : Nat} {all : Array Oper} {σ : Sl} {H : List Own} {S : Seal} {Q : Pst} {Qs : Qst} {c : C}
theorem w_ (h : W P N c σ H S Qs) : W P N c σ H S Qs := h
theorem tk (σ' : Sl) {ops : List O} (h : T P N all ops σ' H S Q) (e : keep (σ'.map (·.1)) σ = σ' := by kernel_rfl) : T P N all ops σ H S Q := t_keep _ e h
theorem wk (σ' : Sl) (h : W P N c σ' H S Qs) (e : keep (σ'.map (·.1)) σ = σ' := by kernel_rfl) : W P N c σ H S Qs := w_kp _ e h
theorem tf (σ' : Sl) {G : Sl → List Own → Prop} (g : G σ' H) (e : keep (σ'.map (·.1)) σ = σ' := by kernel_rfl) : T P N all [] σ H S fun σ1 H1 S1 => G σ1 H1 ∧ S1 = S := t_fin _ g e
theorem tfx {σ' : Sl} {G : Sl → List Own → Prop} (g : G σ' H) (e : keep (σ'.map (·.1)) σ = σ' := by kernel_rfl) : T P N all [] σ H S fun σ1 H1 S1 => G σ1 H1 ∧ S1 = S := t_fin _ g e
theorem fkq (n : Nat) (σ' : Sl) {l : List (O × E)} {ops : List O} (h : finK S (l.drop n) σ' H fun σ2 H1 => ∀ all, T P N all ops σ2 H1 S Q) (e : kpo (σ'.map (·.1)) (fq n l σ) = some σ' := by kernel_rfl) : finK S l σ H fun σ2 H1 => ∀ all, T P N all ops σ2 H1 S Q := fk_q n _ t_more e h
theorem ds (n : Nat) {ops : List O} {es : List E} (h : DI P H S (ops.drop n) (pts n ops es σ) (es.drop n)) (e : qw S n ops σ es = evals n es := by kernel_rfl) (e0 : (evals n es).isSome = true := by kernel_rfl) : DI P H S ops σ es := DI.sq n e e0 h
theorem tT {ops : List O} (h : T P N all ops σ H S Q) : T P N all ops σ H S Q := h
theorem w_ct {x : Operand} {a b : C} (h : W P N a σ H S Qs) (hx : ev σ x = some (.bool true) := by kernel_rfl) : W P N (.cond x a b) σ H S Qs := w_cond hx (fun _ => h) (fun e => by cases e)
theorem w_cf {x : Operand} {a b : C} (h : W P N b σ H S Qs) (hx : ev σ x = some (.bool false) := by kernel_rfl) : W P N (.cond x a b) σ H S Qs := w_cond hx (fun e => by cases e) (fun _ => h)
theorem dvb {o : O} {a b : Bool} (c : a = b) (hw : wtd σ o.g = some true := by exact rfl) (h : qv [] S σ o.k = some (.bool a) := by exact rfl) : DV P H S σ o (.v (.bool b)) := dv_quiet hw (by rw [h, c])
end
instance {n : Nat} : OfNat Operand n := ⟨.tmp n⟩
end Go.Proofs.YtobjaddicodiaaaDoorE
end

section
/- A region's operations at once, with what calls and lists come to told beforehand. Own work. -/
namespace Go.Proofs.YtobjaddicodiaaaDoorE
open Go Go.RowKit
set_option linter.unusedVariables false
set_option linter.unusedSimpArgs false

/-! ### blocks by labels; under a label stands a block, or a forest -/
abbrev Mem := List (Nat × List Own)
def lk : Mem → Nat → Option (List Own)
  | [], _ => none
  | (k, e) :: r, j => if k = j then some e else lk r j
def rmM (ls : List Nat) (M : Mem) : Mem := M.filter fun p => !ls.contains p.1
def lab : Nat → List Own → Mem
  | _, [] => []
  | i, e :: r => (i, [e]) :: lab (i + 1) r
def labF : Nat → List (List Own) → Mem
  | _, [] => []
  | i, e :: r => (i, e) :: labF (i + 1) r
def ows : Mem → List Own
  | [] => []
  | p :: r => p.2 ++ ows r
def Nd (M : Mem) : Prop := (M.map Prod.fst).Nodup

theorem ows_app : ∀ (M N : Mem), ows (M ++ N) = ows M ++ ows N
  | [], _ => rfl
  | p :: r, N => by simp only [ows, List.cons_append, ows_app r N, List.append_assoc]
theorem ows_perm {M N : Mem} (p : M.Perm N) : (ows M).Perm (ows N) := by
  induction p with
  | nil => exact List.Perm.refl _
  | cons x _ ih => exact ih.append_left _
  | swap x y l =>
    simp only [ows]
    rw [← List.append_assoc, ← List.append_assoc]
    exact List.perm_append_comm.append_right _
  | trans _ _ ih1 ih2 => exact ih1.trans ih2
theorem ows_lab : ∀ (H : List Own) (i : Nat), ows (lab i H) = H
  | [], _ => rfl
  | e :: r, i => by simp only [lab, ows, ows_lab r (i + 1)]; rfl
theorem ows_labF : ∀ (F : List (List Own)) (i : Nat), ows (labF i F) = F.flatten
  | [], _ => rfl
  | e :: r, i => by simp only [labF, ows, ows_labF r (i + 1), List.flatten_cons]
theorem keys_lab : ∀ (H : List Own) (i k : Nat), k ∈ (lab i H).map Prod.fst → i ≤ k ∧ k < i + H.length
  | [], _, _, h => by simp [lab] at h
  | e :: r, i, k, h => by
    simp only [lab, List.map_cons, List.mem_cons] at h
    rcases h with rfl | h
    · simp
    · have := keys_lab r (i + 1) k h
      simp only [List.length_cons]; omega
theorem keys_labF : ∀ (H : List (List Own)) (i k : Nat), k ∈ (labF i H).map Prod.fst → i ≤ k ∧ k < i + H.length
  | [], _, _, h => by simp [labF] at h
  | e :: r, i, k, h => by
    simp only [labF, List.map_cons, List.mem_cons] at h
    rcases h with rfl | h
    · simp
    · have := keys_labF r (i + 1) k h
      simp only [List.length_cons]; omega
theorem nd_lab : ∀ (H : List Own) (i : Nat), Nd (lab i H)
  | [], _ => by simp [Nd, lab]
  | e :: r, i => by
    have h := nd_lab r (i + 1)
    simp only [Nd, lab, List.map_cons, List.nodup_cons] at h ⊢
    exact ⟨fun hm => by have := keys_lab r (i + 1) i hm; omega, h⟩
theorem nd_labF : ∀ (H : List (List Own)) (i : Nat), Nd (labF i H)
  | [], _ => by simp [Nd, labF]
  | e :: r, i => by
    have h := nd_labF r (i + 1)
    simp only [Nd, labF, List.map_cons, List.nodup_cons] at h ⊢
    exact ⟨fun hm => by have := keys_labF r (i + 1) i hm; omega, h⟩
def lab2 (H : List Own) (F : List (List Own)) : Mem := lab 0 H ++ labF H.length F
theorem nd_lab2 (H : List Own) (F : List (List Own)) : Nd (lab2 H F) := by
  unfold Nd lab2
  rw [List.map_append, List.nodup_append]
  refine ⟨nd_lab H 0, nd_labF F _, ?_⟩
  intro a ha b hb hab
  have h1 := keys_lab H 0 a ha
  have h2 := keys_labF F _ b hb
  omega
theorem ows_lab2 (H : List Own) (F : List (List Own)) : ows (lab2 H F) = H ++ F.flatten := by
  unfold lab2; rw [ows_app, ows_lab, ows_labF]
theorem lk_mem {M : Mem} {j : Nat} {e : List Own} (h : lk M j = some e) : (j, e) ∈ M := by
  induction M with
  | nil => cases h
  | cons p r ih =>
    obtain ⟨k, f⟩ := p
    simp only [lk] at h
    split at h
    · rename_i hk; subst hk; obtain rfl := Option.some.inj h; exact List.mem_cons_self
    · exact List.mem_cons_of_mem _ (ih h)
theorem lk_of {M : Mem} (nd : Nd M) {j : Nat} {e : List Own} (h : (j, e) ∈ M) : lk M j = some e := by
  induction M with
  | nil => cases h
  | cons p r ih =>
    obtain ⟨k, f⟩ := p
    simp only [Nd, List.map_cons, List.nodup_cons] at nd
    simp only [lk]
    rcases List.mem_cons.1 h with h | h
    · obtain ⟨rfl, rfl⟩ := Prod.mk.inj h; rw [if_pos rfl]
    · rw [if_neg (fun hk : k = j => nd.1 (by rw [hk]; exact List.mem_map.2 ⟨_, h, rfl⟩))]; exact ih nd.2 h
theorem lk_perm {M M' : Mem} (p : M.Perm M') (nd : Nd M) (j : Nat) : lk M j = lk M' j := by
  have nd' : Nd M' := (p.map Prod.fst).nodup_iff.1 nd
  cases h : lk M j with
  | some e => exact (lk_of nd' (p.mem_iff.1 (lk_mem h))).symm
  | none =>
    cases h' : lk M' j with
    | none => rfl
    | some e => rw [lk_of nd (p.mem_iff.2 (lk_mem h'))] at h; cases h
theorem lk_none {M : Mem} {j : Nat} (h : lk M j = none) : j ∉ M.map Prod.fst := by
  induction M with
  | nil => simp
  | cons p r ih =>
    obtain ⟨k, f⟩ := p
    simp only [lk] at h
    split at h
    · cases h
    · rename_i hk
      simp only [List.map_cons, List.mem_cons, not_or]
      exact ⟨fun e => hk e.symm, ih h⟩
theorem lk_app {M N : Mem} (j : Nat) : lk (M ++ N) j = (lk M j).or (lk N j) := by
  induction M with
  | nil => rfl
  | cons p r ih =>
    obtain ⟨k, f⟩ := p
    simp only [List.cons_append, lk]
    split
    · rfl
    · exact ih
theorem lk_rm {M : Mem} {ls : List Nat} (j : Nat) : lk (rmM ls M) j = if j ∈ ls then none else lk M j := by
  induction M with
  | nil => simp [rmM, lk]
  | cons p r ih =>
    obtain ⟨k, f⟩ := p
    unfold rmM at ih ⊢
    by_cases hk : ls.contains k = true
    · rw [List.filter_cons_of_neg (by simp only [hk]; decide)]
      rw [ih]
      have hm : k ∈ ls := by rw [List.contains_eq_mem] at hk; exact of_decide_eq_true hk
      simp only [lk]
      by_cases hj : j ∈ ls
      · rw [if_pos hj, if_pos hj]
      · rw [if_neg hj, if_neg hj, if_neg (fun e : k = j => hj (e ▸ hm))]
    · rw [List.filter_cons_of_pos (by simpa using hk)]
      have hm : k ∉ ls := by simpa using hk
      simp only [lk]
      by_cases hkj : k = j
      · subst hkj; rw [if_pos rfl, if_neg hm, if_pos rfl]
      · rw [if_neg hkj, if_neg hkj]; exact ih
theorem rm_none {M : Mem} {ls : List Nat} (h : ∀ k ∈ M.map Prod.fst, k ∉ ls) : rmM ls M = M := by
  unfold rmM
  refine List.filter_eq_self.2 fun p hp => ?_
  have := h p.1 (List.mem_map.2 ⟨p, hp, rfl⟩)
  simpa using this
theorem rm_rm (M : Mem) (a b : List Nat) : rmM a (rmM b M) = rmM (b ++ a) M := by
  unfold rmM
  rw [List.filter_filter]
  refine List.filter_congr fun p _ => ?_
  simp only [List.contains_eq_mem, List.mem_append, Bool.decide_or, Bool.not_or]
  rw [Bool.and_comm]
theorem nd_rm {M : Mem} (nd : Nd M) (ls : List Nat) : Nd (rmM ls M) := List.Nodup.sublist ((List.filter_sublist (l := M)).map Prod.fst) nd

/-- Blocks by their labels. -/
def lks (M : Mem) : List Nat → Option (List (List Own))
  | [] => some []
  | j :: r => match lk M j, lks M r with
    | some e, some es => some (e :: es)
    | _, _ => none
theorem lks_agr {M M' : Mem} : ∀ {ls : List Nat}, (∀ j ∈ ls, lk M' j = lk M j) → lks M' ls = lks M ls
  | [], _ => rfl
  | j :: r, h => by simp only [lks]; rw [h j (by simp), lks_agr (ls := r) fun i hi => h i (by simp [hi])]
theorem split1 {M : Mem} (nd : Nd M) {j : Nat} {e : List Own} (h : lk M j = some e) : (ows M).Perm (e ++ ows (rmM [j] M)) := by
  induction M with
  | nil => cases h
  | cons p r ih =>
    obtain ⟨k, f⟩ := p
    simp only [Nd, List.map_cons, List.nodup_cons] at nd
    simp only [lk] at h
    split at h
    · rename_i hk; subst hk; obtain rfl := Option.some.inj h
      have : rmM [k] ((k, f) :: r) = r := by
        unfold rmM
        rw [List.filter_cons_of_neg (by simp)]
        exact rm_none (ls := [k]) fun i hi hm => nd.1 (by have : i = k := by simpa using hm
                                                          rw [← this]; exact hi)
      rw [this]
      exact List.Perm.refl _
    · rename_i hk
      have h2 := ih nd.2 h
      have : rmM [j] ((k, f) :: r) = (k, f) :: rmM [j] r := by
        unfold rmM
        rw [List.filter_cons_of_pos (by simpa using hk)]
      rw [this]
      simp only [ows]
      refine (h2.append_left f).trans ?_
      rw [← List.append_assoc, ← List.append_assoc]
      exact List.perm_append_comm.append_right _
theorem splits : ∀ {ls : List Nat} {M : Mem} {As : List (List Own)}, Nd M → ls.Nodup → lks M ls = some As → (ows M).Perm (As.flatten ++ ows (rmM ls M))
  | [], M, As, nd, _, h => by
    simp only [lks, Option.some.injEq] at h
    subst h
    rw [rm_none (ls := []) (fun _ _ => by simp)]
    exact List.Perm.refl _
  | j :: r, M, As, nd, hn, h => by
    simp only [lks] at h
    split at h
    · rename_i e es h1 h2
      obtain rfl := Option.some.inj h
      rw [List.nodup_cons] at hn
      have hs := split1 nd h1
      have h3 : lks (rmM [j] M) r = some es := by
        rw [← h2]
        exact lks_agr fun i hi => by rw [lk_rm, if_neg]; intro hm; have : i = j := by simpa using hm
                                     exact hn.1 (this ▸ hi)
      have ht := splits (nd_rm nd [j]) hn.2 h3
      rw [rm_rm] at ht
      refine hs.trans ?_
      rw [List.flatten_cons, List.append_assoc]
      exact ht.append_left e
    · cases h

/-! ### names -/
structure U where
  n : Nat → Nat
  o : Nat → Option Nat
  a : Nat → Option Addr
  c : Nat → List Value
  f : Nat → List Own
structure L5 where
  n : List Nat
  o : List (Option Nat)
  a : List (Option Addr)
  c : List (List Value)
  f : List (List Own)
def tr : List Nat → U → L5
  | [], _ => ⟨[], [], [], [], []⟩
  | 0 :: t, u => let r := tr t ⟨fun j => u.n (j + 1), u.o, u.a, u.c, u.f⟩; ⟨u.n 0 :: r.n, r.o, r.a, r.c, r.f⟩
  | 1 :: t, u => let r := tr t ⟨u.n, fun j => u.o (j + 1), u.a, u.c, u.f⟩; ⟨r.n, u.o 0 :: r.o, r.a, r.c, r.f⟩
  | 2 :: t, u => let r := tr t ⟨u.n, u.o, fun j => u.a (j + 1), u.c, u.f⟩; ⟨r.n, r.o, u.a 0 :: r.a, r.c, r.f⟩
  | 3 :: t, u => let r := tr t ⟨u.n, u.o, u.a, fun j => u.c (j + 1), u.f⟩; ⟨r.n, r.o, r.a, u.c 0 :: r.c, r.f⟩
  | _ :: t, u => let r := tr t ⟨u.n, u.o, u.a, u.c, fun j => u.f (j + 1)⟩; ⟨r.n, r.o, r.a, r.c, u.f 0 :: r.f⟩
def un (l : L5) : U := ⟨fun j => l.n.getD j 0, fun j => l.o.getD j none, fun j => l.a.getD j none, fun j => l.c.getD j [], fun j => l.f.getD j []⟩
def AllT : List Nat → (L5 → Prop) → Prop
  | [], f => f ⟨[], [], [], [], []⟩
  | 0 :: t, f => ∀ b : Nat, AllT t fun r => f ⟨b :: r.n, r.o, r.a, r.c, r.f⟩
  | 1 :: t, f => ∀ b : Option Nat, AllT t fun r => f ⟨r.n, b :: r.o, r.a, r.c, r.f⟩
  | 2 :: t, f => ∀ b : Option Addr, AllT t fun r => f ⟨r.n, r.o, b :: r.a, r.c, r.f⟩
  | 3 :: t, f => ∀ b : List Value, AllT t fun r => f ⟨r.n, r.o, r.a, b :: r.c, r.f⟩
  | _ :: t, f => ∀ b : List Own, AllT t fun r => f ⟨r.n, r.o, r.a, r.c, b :: r.f⟩
theorem allT : ∀ {t : List Nat} {f : L5 → Prop}, AllT t f → ∀ u, f (tr t u)
  | [], f, h, u => h
  | 0 :: t, f, h, u => allT (t := t) (h (u.n 0)) _
  | 1 :: t, f, h, u => allT (t := t) (h (u.o 0)) _
  | 2 :: t, f, h, u => allT (t := t) (h (u.a 0)) _
  | 3 :: t, f, h, u => allT (t := t) (h (u.c 0)) _
  | (_ + 4) :: t, f, h, u => allT (t := t) (h (u.f 0)) _

/-! ### what is told beforehand -/
/-- The operands that an operation looks at. -/
def kO : K → List Operand
  | .mv x | .ld _ x | .pad _ x | .fld _ _ x | .nck x | .un _ x | .cnv _ x | .xt _ x | .lns x | .mki _ x | .tas _ _ _ x | .s2a _ x | .box x | .conv _ _ x => [x]
  | .pk c x y => [c, x, y]
  | .bld _ ps | .bsl _ _ ps => ps.map (·.2.2)
  | .ixs _ x i | .ixa _ _ x i | .ixv _ _ _ x i => [x, i]
  | .bin _ x y | .beq _ x y | .eqt _ _ x y | .st _ x y | .app _ _ _ _ x y | .mks _ _ _ x y => [x, y]
  | .mm _ xs | .mkf _ xs | .call _ xs => xs
  | .clo x xs => x :: xs
  | .sls _ x lo hi | .sla _ _ x lo hi => x :: (lo.toList ++ hi.toList)
  | .lnc _ | .new _ | .fail => []
structure Sp where
  k : K
  vs : List Value
  A : List (List Own)
  R : List (List Own)
  t : List Nat
  v : L5 → Value
  B : L5 → List (List Own)
  nb : Nat
  φ : L5 → Prop := fun _ => True
def SpOK (P : Program) (S : Seal) (p : Sp) : Prop := p.k ≠ .fail ∧
  ∀ (N : Nat) (all : Array Oper) (r : List O) (Q : Pst) (σ : Sl) (F : List Own) (d : Option Nat) (g : Option (Nat × Bool)), wtd σ g = some true → evs σ (kO p.k) = some p.vs →
    (∀ u : U, p.φ (tr p.t u) → T P N all r (pt σ d (p.v (tr p.t u))) ((p.B (tr p.t u)).flatten ++ (p.R.flatten ++ F)) S Q) → T P N all (⟨d, p.k, g⟩ :: r) σ (p.A.flatten ++ (p.R.flatten ++ F)) S Q
theorem opT_kO {k : K} {t : Nat} (h : ∃ x ∈ kO k, t ∈ opT x) : t ∈ kT k := by
  obtain ⟨x, hx, ht⟩ := h
  cases k <;> simp only [kO, List.mem_singleton, List.mem_cons, List.not_mem_nil, or_false, List.mem_append, List.mem_map, Option.mem_toList] at hx <;> simp only [kT, List.mem_append, opsT, List.mem_flatMap, pT]
  all_goals first
    | (subst hx; exact ht)
    | (rcases hx with rfl | rfl | rfl <;> simp [ht])
    | (rcases hx with rfl | rfl <;> simp [ht])
    | (obtain ⟨p, hp, rfl⟩ := hx; exact ⟨p, hp, ht⟩)
    | exact ⟨x, hx, ht⟩
    | (rcases hx with rfl | hx
       · exact Or.inl ht
       · exact Or.inr ⟨x, hx, ht⟩)
    | (rcases hx with rfl | hx | hx
       · exact Or.inl (Or.inl ht)
       · rw [hx]; exact Or.inl (Or.inr ht)
       · rw [hx]; exact Or.inr ht)
theorem evs_kO {σ σ' : Sl} {k : K} (h : Agr (kT k) σ σ') : evs σ' (kO k) = evs σ (kO k) := by
  refine evs_agr fun t ht => h t (opT_kO ?_)
  unfold opsT at ht
  exact List.mem_flatMap.1 ht
end Go.Proofs.YtobjaddicodiaaaDoorE
end

section
/- What one operation does, and that it does so. Own work. -/
namespace Go.Proofs.YtobjaddicodiaaaDoorE
open Go Go.RowKit
set_option linter.unusedVariables false
set_option linter.unusedSimpArgs false

/-- What goes, what comes. -/
structure Mm where
  rm : List Nat
  ad : Mem
def Mm.no : Mm := ⟨[], []⟩
def Mm.ap (m : Mm) (M : Mem) : Mem := match m.rm with
  | [] => m.ad ++ M
  | ls => m.ad ++ rmM ls M
theorem ap_eq (m : Mm) (M : Mem) : m.ap M = m.ad ++ rmM m.rm M := by
  unfold Mm.ap
  split
  · rename_i h; rw [h, rm_none (ls := []) (fun _ _ => by simp)]
  · rename_i h; rfl
inductive Ob where
  | n (a : Nat)
  | v (vs : List Value)
  | o (l : List (List Own))
  | k (k : K)
structure Ef where
  v : Value
  q : List (Ob × Ob)
  m : Mm
/-- An operation, the labels it goes to, its first own label, what is told of it (and its number). -/
structure Co where
  o : O
  hl : List Nat
  lb : Nat
  sp : Option (Nat × Sp)

def ptrOf : Option Value → Option (Nat × Nat)
  | some (.pointer (some ⟨c, k, none⟩)) => some (c, k)
  | _ => none
theorem ptrOf_some {x : Option Value} {c k : Nat} (h : ptrOf x = some (c, k)) : x = some (.pointer (some ⟨c, k, none⟩)) := by
  unfold ptrOf at h
  split at h
  · injection h with h; injection h with h1 h2; subst h1 h2; rfl
  · cases h
/-- One block. -/
def o1 : Option (List Own) → Option Own
  | some [e] => some e
  | _ => none
theorem o1_some {x : Option (List Own)} {e : Own} (h : o1 x = some e) : x = some [e] := by
  unfold o1 at h
  split at h
  · obtain rfl := Option.some.inj h; rfl
  · cases h
def lk0 (M : Mem) : List Nat → Option Own
  | j :: _ => o1 (lk M j)
  | [] => none
def lk1 (M : Mem) : List Nat → Option Own
  | _ :: j :: _ => o1 (lk M j)
  | _ => none
theorem lk0_agr {M M' : Mem} {hl : List Nat} (h : ∀ j ∈ hl, lk M' j = lk M j) : lk0 M' hl = lk0 M hl := by
  cases hl with
  | nil => rfl
  | cons j r => simp only [lk0]; rw [h j (by simp)]
theorem lk1_agr {M M' : Mem} {hl : List Nat} (h : ∀ j ∈ hl, lk M' j = lk M j) : lk1 M' hl = lk1 M hl := by
  cases hl with
  | nil => rfl
  | cons i r =>
    cases r with
    | nil => rfl
    | cons j r => simp only [lk1]; rw [h j (by simp)]
theorem lk0_some {M : Mem} {hl : List Nat} {e : Own} (h : lk0 M hl = some e) : hl.headD 0 ∈ hl ∧ lk M (hl.headD 0) = some [e] := by
  cases hl with
  | nil => cases h
  | cons j r => exact ⟨by simp, o1_some h⟩
theorem lk1_some {M : Mem} {hl : List Nat} {e : Own} (h : lk1 M hl = some e) : ∃ j, lk M j = some [e] := by
  cases hl with
  | nil => cases h
  | cons i r =>
    cases r with
    | nil => cases h
    | cons j r => exact ⟨j, o1_some h⟩
def efNew (M : Mem) (lb b n : Nat) (cs : List Value) (v : Value) : Option Ef := match lk M lb with
  | none => some ⟨v, [], ⟨[], [(lb, [⟨some b, cs, n⟩])]⟩⟩
  | some _ => none
def efLd (z : Option Nat) (k c : Nat) (e : Own) : Option Ef := match e.b, z with
  | some c', none => match e.cs[k]? with
    | some v => some ⟨v, [(.n c, .n c')], .no⟩
    | none => none
  | some c', some z => match subl e.cs k z with
    | some vs => some ⟨.agg vs.toArray, [(.n c, .n c')], .no⟩
    | none => none
  | none, _ => none
def efSt (z k c j : Nat) (v : Value) (e : Own) : Option Ef := match e.b with
  | some c' => match decide ((cl v).length = z) && (cl v).all (·.oneCell'), stl e.cs k (cl v) with
    | true, some cs => some ⟨undef, [(.n c, .n c')], ⟨[j], [(j, [⟨some c', cs, e.n⟩])]⟩⟩
    | _, _ => none
  | none => none
def efA0 (M : Mem) (z bytes : Nat) (zero : List Value) (m b2 k2 lb b n : Nat) (e : Own) : Option Ef := match e.b, subl e.cs k2 (m * z), lk M lb with
  | some c', some news, none => match decide (0 < m ∧ (m : Int) ≤ 9223372036854775807 ∧ m * bytes ≤ 281474976710656 ∧ zero.length = z) with
    | true => some ⟨.slice (some ⟨b, 0, none⟩) m (n / z), [(.n b2, .n c')], ⟨[], [(lb, [⟨some b, news, n⟩])]⟩⟩
    | false => none
  | _, _, _ => none
def efA1 (z bytes : Nat) (zero : List Value) (c1 n1 cap m b2 k2 i b n : Nat) (e1 e : Own) : Option Ef := match e1.b, e.b, subl e.cs k2 (m * z) with
  | some d1, some c', some news => match news.all (·.oneCell') && decide (e1.cs.length = n1 * z ∧ ((n1 + m : Nat) : Int) ≤ 9223372036854775807 ∧ (n1 + m) * bytes ≤ 140737488355328 ∧ zero.length = z) with
    | true => some ⟨.slice (some ⟨b, 0, none⟩) (n1 + m) (n / z), [(.n c1, .n d1), (.n (e1.n / z), .n cap), (.n b2, .n c')], ⟨[i], [(i, [⟨some b, e1.cs ++ news, n⟩])]⟩⟩
    | false => none
  | _, _, _ => none
def efK (P : Program) (S : Seal) (σ : Sl) (M : Mem) (hl : List Nat) (lb b n : Nat) : K → Option Ef
  | .ld z x => match ptrOf (ev σ x), lk0 M hl with
    | some (c, k), some e => efLd z k c e
    | _, _ => none
  | .st z x y => match ptrOf (ev σ x), ev σ y, lk0 M hl with
    | some (c, k), some v, some e => efSt z k c (hl.headD 0) v e
    | _, _, _ => none
  | .new z => efNew M lb b z.length z (ptrTo b)
  | .box x => match ev σ x with
    | some v => efNew M lb b (cl v).length (cl v) (ptrTo b)
    | none => none
  | .bsl z n' ps => match evp σ ps with
    | some vs => match lay z vs with
      | some cs => efNew M lb b cs.length cs (slTo n' b)
      | none => none
    | none => none
  | .mks z bytes zero l c => match ev σ l, ev σ c with
    | some (.int _ n'), some (.int _ m) => match decide (0 ≤ n' ∧ n' ≤ m ∧ (bytes : Int) * m ≤ 281474976710656 ∧ m ≤ 9223372036854775807) with
      | true => efNew M lb b (m.toNat * z) (madeL zero (m.toNat * z)) (.slice (some ⟨b, 0, none⟩) n'.toNat m.toNat)
      | false => none
    | _, _ => none
  | .app _ z bytes zero x y => match ev σ x, ev σ y, lk0 M hl, lk1 M hl with
    | some (.slice none 0 0), some (.slice (some ⟨b2, k2, none⟩) m _), _, some e => efA0 M z bytes zero m b2 k2 lb b n e
    | some (.slice (some ⟨c1, 0, none⟩) n1 cap), some (.slice (some ⟨b2, k2, none⟩) m _), some e1, some e => efA1 z bytes zero c1 n1 cap m b2 k2 (hl.headD 0) b n e1 e
    | _, _, _, _ => none
  | .eqt neg t x y => match ev σ x, ev σ y with
    | some u, some v => match eqV P t x y u v with
      | some r => some ⟨.bool (r != neg), [], .no⟩
      | none => none
    | _, _ => none
  | k => match qv [] S σ k with
    | some v => some ⟨v, [], .no⟩
    | none => none
/-- Fresh labels in a row. -/
def freeL (M : Mem) : Nat → Nat → Bool
  | _, 0 => true
  | lb, n + 1 => (lk M lb).isNone && freeL M (lb + 1) n
def efSp (σ : Sl) (M : Mem) (k : K) (hl : List Nat) (lb : Nat) (p : Sp) (l : L5) : Option Ef :=
  match evs σ (kO k), lks M (hl.take p.A.length), lks M (hl.drop p.A.length), decide hl.Nodup && (decide ((p.B l).length = p.nb) && freeL M lb p.nb) with
  | some vs, some As, some Rs, true => some ⟨p.v l, [(.k k, .k p.k), (.v vs, .v p.vs), (.o As, .o p.A), (.o Rs, .o p.R)], ⟨hl.take p.A.length, labF lb (p.B l)⟩⟩
  | _, _, _, _ => none
def ef (P : Program) (S : Seal) (c : Co) (b n : Nat) (l : L5) (σ : Sl) (M : Mem) : Option Ef := match wtd σ c.o.g with
  | none => none
  | some false => if isFail c.o.k || c.sp.isSome then none else some ⟨undef, [], .no⟩
  | some true => match c.sp with
    | none => efK P S σ M c.hl c.lb b n c.o.k
    | some (_, p) => efSp σ M c.o.k c.hl c.lb p l

/-- How many labels, how many names. -/
def nn : K → Nat
  | .new _ | .box _ | .bsl _ _ _ | .mks _ _ _ _ _ => 1
  | .app _ _ _ _ _ _ => 2
  | _ => 0
def nnC (c : Co) : Nat := match c.sp with
  | none => nn c.o.k
  | some _ => 0
def nlC (c : Co) : Nat := match c.sp with
  | none => min (nn c.o.k) 1
  | some (_, p) => p.nb
def own (c : Co) : List Nat := (List.range (nlC c)).map (c.lb + ·)
def tl (c : Co) : List Nat := own c ++ c.hl
def wl (c : Co) : List Nat := match c.sp with
  | some (_, p) => own c ++ c.hl.take p.A.length
  | none => match c.o.k with
    | .st _ _ _ => c.hl
    | .app _ _ _ _ _ _ => own c ++ c.hl
    | _ => own c
theorem freeL_agr {M M' : Mem} : ∀ (n lb : Nat), (∀ j, lb ≤ j → j < lb + n → lk M' j = lk M j) → freeL M' lb n = freeL M lb n
  | 0, _, _ => rfl
  | n + 1, lb, h => by
    simp only [freeL]
    rw [h lb (Nat.le_refl _) (by omega), freeL_agr n (lb + 1) fun j h1 h2 => h j (by omega) (by omega)]
theorem freeL_get {M : Mem} : ∀ (n lb : Nat), freeL M lb n = true → ∀ j, lb ≤ j → j < lb + n → lk M j = none
  | 0, lb, _, j, h1, h2 => by omega
  | n + 1, lb, h, j, h1, h2 => by
    simp only [freeL, Bool.and_eq_true, Option.isNone_iff_eq_none] at h
    by_cases e : j = lb
    · rw [e]; exact h.1
    · exact freeL_get n (lb + 1) h.2 j (by omega) (by omega)
theorem mem_own {c : Co} {j : Nat} : j ∈ own c ↔ c.lb ≤ j ∧ j < c.lb + nlC c := by
  unfold own
  simp only [List.mem_map, List.mem_range]
  constructor
  · rintro ⟨i, hi, rfl⟩; omega
  · intro h; exact ⟨j - c.lb, by omega, by omega⟩
theorem efK_agr {P : Program} {S : Seal} {σ σ' : Sl} {M M' : Mem} {hl : List Nat} {lb b n : Nat} {k : K} (g : Agr (kT k) σ σ') (h : ∀ j ∈ hl, lk M' j = lk M j) (hlb : 0 < nn k → lk M' lb = lk M lb) : efK P S σ' M' hl lb b n k = efK P S σ M hl lb b n k := by
  have hq := qv_agr (H := []) (S := S) g
  have h0 := lk0_agr h
  have h1 := lk1_agr h
  cases k with
  | ld z x => simp only [kT] at g; simp only [efK, ev_agr g, h0]
  | st z x y => simp only [kT] at g; simp only [efK, ev_agr g.left, ev_agr g.right, h0]
  | new z => have hlb := hlb (by simp [nn]); simp only [efK, efNew, hlb]
  | box x => have hlb := hlb (by simp [nn]); simp only [kT] at g; simp only [efK, efNew, hlb, ev_agr g]
  | bsl z n' ps => have hlb := hlb (by simp [nn]); simp only [kT] at g; simp only [efK, efNew, hlb, evp_agr g]
  | mks z bytes zero l c => have hlb := hlb (by simp [nn]); simp only [kT] at g; simp only [efK, efNew, hlb, ev_agr g.left, ev_agr g.right]
  | app e z bytes zero x y => have hlb := hlb (by simp [nn]); simp only [kT] at g; simp only [efK, efA0, hlb, ev_agr g.left, ev_agr g.right, h0, h1]
  | eqt neg t x y => simp only [kT] at g; simp only [efK, ev_agr g.left, ev_agr g.right]
  | _ => simp only [efK]; rw [hq]
theorem ef_agr {P : Program} {S : Seal} {σ σ' : Sl} {M M' : Mem} {c : Co} {b n : Nat} {l : L5} (g : Agr (oT c.o) σ σ') (h : ∀ j ∈ tl c, lk M' j = lk M j) : ef P S c b n l σ' M' = ef P S c b n l σ M := by
  unfold ef
  rw [wtd_agr g]
  have gk : Agr (kT c.o.k) σ σ' := fun t ht => g t (by simp [oT, ht])
  have hl : ∀ j ∈ c.hl, lk M' j = lk M j := fun j hj => h j (by simp [tl, hj])
  have ho : ∀ j, c.lb ≤ j → j < c.lb + nlC c → lk M' j = lk M j := fun j h1 h2 => h j (by unfold tl; exact List.mem_append_left _ (mem_own.2 ⟨h1, h2⟩))
  cases hs : c.sp with
  | none =>
    simp only [hs]
    rw [efK_agr gk hl fun hn => ho c.lb (Nat.le_refl _) (by simp only [nlC, hs]; omega)]
  | some p =>
    obtain ⟨j, p⟩ := p
    simp only [hs]
    have e1 : efSp σ' M' c.o.k c.hl c.lb p l = efSp σ M c.o.k c.hl c.lb p l := by
      unfold efSp
      rw [evs_kO gk, lks_agr (ls := c.hl.take p.A.length) fun j hj => hl j (List.mem_of_mem_take hj), lks_agr (ls := c.hl.drop p.A.length) fun j hj => hl j (List.mem_of_mem_drop hj),
        freeL_agr p.nb c.lb fun j h1 h2 => ho j h1 (by simp only [nlC, hs]; exact h2)]
    rw [e1]

/-- What an operation changes. -/
structure MW (c : Co) (M : Mem) (m : Mm) : Prop where
  rw_ : ∀ j ∈ m.rm, j ∈ wl c
  rh : ∀ j ∈ m.rm, j ∈ c.hl
  aw : ∀ j ∈ m.ad.map Prod.fst, j ∈ wl c
  an : (m.ad.map Prod.fst).Nodup
  af : ∀ j ∈ m.ad.map Prod.fst, j ∈ m.rm ∨ lk M j = none
theorem MW.no {c : Co} {M : Mem} : MW c M .no := ⟨by simp [Mm.no], by simp [Mm.no], by simp [Mm.no], by simp [Mm.no], by simp [Mm.no]⟩
theorem MW.one {c : Co} {M : Mem} {j : Nat} {e : List Own} (h : j ∈ wl c) (h2 : j ∈ c.hl) : MW c M ⟨[j], [(j, e)]⟩ := by
  refine ⟨fun i hi => ?_, fun i hi => ?_, fun i hi => ?_, by simp, by simp⟩
  · obtain rfl := List.mem_singleton.1 hi; exact h
  · obtain rfl := List.mem_singleton.1 hi; exact h2
  · simp only [List.map_cons, List.map_nil, List.mem_singleton] at hi; subst hi; exact h
theorem keys_labF_map : ∀ (B : List (List Own)) (lb : Nat), (labF lb B).map Prod.fst = (List.range B.length).map (lb + ·)
  | [], _ => rfl
  | e :: r, lb => by
    simp only [labF, List.map_cons, List.length_cons, List.range_succ_eq_map, List.map_map]
    rw [keys_labF_map r (lb + 1)]
    congr 1
    refine List.map_congr_left fun i _ => ?_
    simp only [Function.comp]
    omega
theorem efNew_w {c : Co} {M : Mem} {b n : Nat} {cs : List Value} {v : Value} {e : Ef} (h : efNew M c.lb b n cs v = some e) (hw : c.lb ∈ wl c) : MW c M e.m := by
  unfold efNew at h
  split at h
  · rename_i hn; obtain rfl := Option.some.inj h
    exact ⟨by simp, by simp, by simpa using hw, by simp, by simpa using hn⟩
  · cases h
theorem ef_w {P : Program} {S : Seal} {c : Co} {b n : Nat} {l : L5} {σ : Sl} {M : Mem} {e : Ef} (h : ef P S c b n l σ M = some e) : MW c M e.m := by
  obtain ⟨⟨d, k, g⟩, hl, lb, sp⟩ := c
  unfold ef at h
  split at h
  · cases h
  · split at h
    · cases h
    · obtain rfl := Option.some.inj h; exact .no
  · cases sp with
    | some p =>
      obtain ⟨j, p⟩ := p
      simp only at h
      unfold efSp at h
      split at h
      · rename_i hc
        obtain rfl := Option.some.inj h
        simp only [Bool.and_eq_true, decide_eq_true_eq] at hc
        obtain ⟨c1, c2, c3⟩ := hc
        refine ⟨fun i hi => ?_, fun i hi => List.mem_of_mem_take hi, fun i hi => ?_, nd_labF _ _, fun i hi => Or.inr ?_⟩
        · simp only [wl]; exact List.mem_append_right _ hi
        · rw [keys_labF_map, c2] at hi
          simp only [wl]; exact List.mem_append_left _ hi
        · have := keys_labF _ _ i hi
          exact freeL_get p.nb lb c3 i this.1 (by rw [← c2]; exact this.2)
      · cases h
    | none =>
    simp only at h
    have hown : 0 < nn k → lb ∈ own ⟨⟨d, k, g⟩, hl, lb, none⟩ := fun hn => mem_own.2 ⟨Nat.le_refl _, by simp only [nlC]; omega⟩
    cases k <;> simp only [efK] at h
    case ld z x =>
      split at h
      · unfold efLd at h
        (repeat' split at h) <;> first | (cases h; done) | (obtain rfl := Option.some.inj h; exact .no)
      · cases h
    case st z x y =>
      split at h
      · rename_i e0 _ _ he
        unfold efSt at h
        split at h
        · split at h
          · obtain rfl := Option.some.inj h
            obtain ⟨g1, g2⟩ := lk0_some he
            exact ⟨by simpa [wl] using g1, by simpa using g1, by simpa [wl] using g1, by simp, by simp⟩
          · cases h
        · cases h
      · cases h
    case new z => exact efNew_w (c := ⟨⟨d, _, g⟩, hl, lb, none⟩) h (hown (by simp [nn]))
    case box x =>
      split at h
      · exact efNew_w (c := ⟨⟨d, _, g⟩, hl, lb, none⟩) h (hown (by simp [nn]))
      · cases h
    case bsl z n' ps =>
      split at h
      · split at h
        · exact efNew_w (c := ⟨⟨d, _, g⟩, hl, lb, none⟩) h (hown (by simp [nn]))
        · cases h
      · cases h
    case mks z bytes zero l c =>
      split at h
      · split at h
        · exact efNew_w (c := ⟨⟨d, _, g⟩, hl, lb, none⟩) h (hown (by simp [nn]))
        · cases h
      · cases h
    case app e' z bytes zero x y =>
      have hw := List.mem_append_left hl (hown (by simp [nn]))
      split at h
      · unfold efA0 at h
        split at h
        · rename_i hn
          split at h
          · obtain rfl := Option.some.inj h
            exact ⟨by simp, by simp, fun j hj => by obtain rfl : j = lb := by simpa using hj
                                                    exact hw, by simp, by simpa using hn⟩
          · cases h
        · cases h
      · rename_i h1 _
        unfold efA1 at h
        split at h
        · split at h
          · obtain rfl := Option.some.inj h
            obtain ⟨g1, g2⟩ := lk0_some h1
            have hw2 := fun (A : List Nat) => List.mem_append_right A g1
            exact MW.one (hw2 _) g1
          · cases h
        · cases h
      · cases h
    case eqt neg t x y =>
      (repeat' split at h) <;> first | (cases h; done) | (obtain rfl := Option.some.inj h; exact .no)
    all_goals
      split at h
      · obtain rfl := Option.some.inj h; exact .no
      · cases h
theorem lk_ap {c : Co} {M : Mem} {m : Mm} (h : MW c M m) {j : Nat} (hj : j ∉ wl c) : lk (m.ap M) j = lk M j := by
  rw [ap_eq, lk_app, lk_rm, if_neg (fun hm => hj (h.rw_ j hm))]
  have : lk m.ad j = none := by
    cases hl : lk m.ad j with
    | none => rfl
    | some e => exact absurd (h.aw j (List.mem_map.2 ⟨_, lk_mem hl, rfl⟩)) hj
  rw [this]; rfl
theorem mem_rm_key {M : Mem} {ls : List Nat} {j : Nat} (h : j ∈ (rmM ls M).map Prod.fst) : j ∈ M.map Prod.fst ∧ j ∉ ls := by
  obtain ⟨p, hp, rfl⟩ := List.mem_map.1 h
  unfold rmM at hp
  obtain ⟨h1, h2⟩ := List.mem_filter.1 hp
  exact ⟨List.mem_map.2 ⟨p, h1, rfl⟩, by simpa using h2⟩
theorem nd_ap {c : Co} {M : Mem} {m : Mm} (h : MW c M m) (nd : Nd M) : Nd (m.ap M) := by
  rw [ap_eq]
  unfold Nd
  rw [List.map_append, List.nodup_append]
  refine ⟨h.an, nd_rm nd m.rm, ?_⟩
  intro a ha b hb hab
  subst hab
  obtain ⟨h1, h2⟩ := mem_rm_key hb
  rcases h.af a ha with hm | hm
  · exact h2 hm
  · exact lk_none hm h1
theorem perm_ap {M M' : Mem} (p : M.Perm M') (m : Mm) : (m.ap M).Perm (m.ap M') := by
  rw [ap_eq, ap_eq]
  exact (p.filter _).append_left _
end Go.Proofs.YtobjaddicodiaaaDoorE
end

section
/- That the machine does so. Own work. -/
namespace Go.Proofs.YtobjaddicodiaaaDoorE
open Go Go.RowKit
set_option linter.unusedVariables false
set_option linter.unusedSimpArgs false

def trC (c : Co) (u : U) : L5 := match c.sp with
  | some (_, p) => tr p.t u
  | none => ⟨[], [], [], [], []⟩
def Φ (c : Co) (l : L5) : Prop := match c.sp with
  | some (_, p) => p.φ l
  | none => True
section
variable {P : Program} {N : Nat} {all : Array Oper} {r : List O} {σ : Sl} {H F : List Own} {S : Seal} {Q : Pst}

theorem mem_ows {M : Mem} {j : Nat} {l : List Own} {e : Own} (h : lk M j = some l) (he : e ∈ l) : e ∈ ows M := by
  have := lk_mem h
  clear h
  induction M with
  | nil => cases this
  | cons p r ih =>
    simp only [ows, List.mem_append]
    rcases List.mem_cons.1 this with rfl | h
    · exact Or.inl he
    · exact Or.inr (ih h)
theorem r1_lk {M : Mem} {j c k : Nat} {e : Own} {v : Value} (h : lk M j = some [e]) (hb : e.b = some c) (hv : e.cs[k]? = some v) : R1 (ows M ++ F) S c k v :=
  Or.inl ⟨e, List.mem_append_left _ (mem_ows h (by simp)), by rw [hb]; rfl, hv⟩
theorem rn_lk {M : Mem} {j c k n : Nat} {e : Own} {vs : List Value} (h : lk M j = some [e]) (hb : e.b = some c) (hv : subl e.cs k n = some vs) : Rn (ows M ++ F) S c k n vs :=
  Or.inl ⟨e, List.mem_append_left _ (mem_ows h (by simp)), by rw [hb]; rfl, hv⟩
theorem take1 {M : Mem} (nd : Nd M) {j : Nat} {e : Own} (h : lk M j = some [e]) : (ows M ++ F).Perm (e :: (ows (rmM [j] M) ++ F)) := by
  have := (split1 nd h).append_right F
  exact this
theorem ap1 {M : Mem} {j i : Nat} {e : Own} : ows (Mm.ap ⟨[j], [(i, [e])]⟩ M) ++ F = e :: (ows (rmM [j] M) ++ F) := by
  rw [ap_eq]; rfl

theorem op_ok {c : Co} {M : Mem} (hp : H.Perm (ows M ++ F)) (nd : Nd M) (hsp : ∀ j p, c.sp = some (j, p) → SpOK P S p)
    (he : ∀ b n u, ∃ e, ef P S c b n (trC c u) σ M = some e ∧ ∀ p ∈ e.q, p.1 = p.2)
    (h : ∀ b n u e, ef P S c b n (trC c u) σ M = some e → Φ c (trC c u) → T P N all r (pt σ c.o.d e.v) (ows (e.m.ap M) ++ F) S Q) : T P N all (c.o :: r) σ H S Q := by
  refine t_vs (VS.perm hp) ?_
  obtain ⟨⟨d, k, g⟩, hl, lb, sp⟩ := c
  simp only [ef] at h he
  have u0 : U := ⟨fun _ => 0, fun _ => none, fun _ => none, fun _ => [], fun _ => []⟩
  cases hw : wtd σ g with
  | none => obtain ⟨e, h1, _⟩ := he 0 0 u0; rw [hw] at h1; cases h1
  | some t =>
    cases t with
    | false =>
      obtain ⟨e, h1, _⟩ := he 0 0 u0
      rw [hw] at h1
      simp only at h1
      split at h1
      · cases h1
      · rename_i hf
        have hkf : k ≠ .fail := fun hk => by subst hk; exact hf rfl
        cases sp with
        | some p => exact absurd (by simp) hf
        | none =>
          have h2 := h 0 0 u0 ⟨undef, [], .no⟩ (by rw [hw]; simp only; rw [if_neg hf]) trivial
          exact t_skip hkf hw h2
    | true =>
      rw [hw] at h he
      simp only at h he
      cases sp with
      | some p =>
        obtain ⟨j, p⟩ := p
        simp only [trC, Φ] at h he
        have hok := hsp j p rfl
        obtain ⟨e, h1, hq⟩ := he 0 0 u0
        unfold efSp at h1
        split at h1
        · rename_i vs As Rs hvs hAs hRs hc
          obtain rfl := Option.some.inj h1
          have q1 : k = p.k := by have := hq (.k k, .k p.k) (by simp); injection this
          have q2 : vs = p.vs := by have := hq (.v vs, .v p.vs) (by simp); injection this
          have q3 : As = p.A := by have := hq (.o As, .o p.A) (by simp); injection this
          have q4 : Rs = p.R := by have := hq (.o Rs, .o p.R) (by simp); injection this
          simp only [Bool.and_eq_true, decide_eq_true_eq] at hc
          have hnd := hc.1
          have hnd2 : (hl.take p.A.length ++ hl.drop p.A.length).Nodup := by rw [List.take_append_drop]; exact hnd
          rw [List.nodup_append] at hnd2
          obtain ⟨n1, n2, n3⟩ := hnd2
          subst q2 q3 q4
          have s1 := splits nd n1 hAs
          have hR' : lks (rmM (hl.take p.A.length) M) (hl.drop p.A.length) = some p.R := by
            rw [← hRs]
            exact lks_agr fun i hi => by rw [lk_rm, if_neg]; intro hm; exact n3 _ hm _ hi rfl
          have s2 := splits (nd_rm nd _) n2 hR'
          rw [rm_rm, List.take_append_drop] at s2
          subst q1
          refine t_vs (VS.perm ((s1.append_right F).trans ?_)) (hok.2 N all r Q σ (ows (rmM hl M) ++ F) d g hw hvs fun u hu => ?_)
          · rw [List.append_assoc]
            refine List.Perm.append_left _ ?_
            have := s2.append_right F
            rw [List.append_assoc] at this
            exact this
          · obtain ⟨e, h1, _⟩ := he 0 0 u
            have h2 := h 0 0 u e h1 hu
            unfold efSp at h1
            split at h1
            · obtain rfl := Option.some.inj h1
              refine t_vs (VS.perm ?_) h2
              simp only
              rw [ap_eq, ows_app, ows_labF, List.append_assoc]
              refine List.Perm.append_left _ ?_
              have := s2.append_right F
              rw [List.append_assoc] at this
              exact this.symm
            · cases h1
        · cases h1
      | none =>
        have quiet1 : (∀ b n, efK P S σ M hl lb b n k = (match qv [] S σ k with
            | some v => some ⟨v, [], .no⟩
            | none => none)) → T P N all (⟨d, k, g⟩ :: r) σ (ows M ++ F) S Q := by
          intro hq
          obtain ⟨e, h1, _⟩ := he 0 0 u0
          have h2 := h 0 0 u0 e h1 trivial
          simp only at h1
          rw [hq] at h1
          split at h1
          · rename_i v hv
            obtain rfl := Option.some.inj h1
            exact t_v (dv_quiet hw hv) h2
          · cases h1
        have newb : ∀ {cs : List Value} {mk : Nat → Value}, (∀ b n, efK P S σ M hl lb b n k = efNew M lb b cs.length cs (mk b)) → (∀ b, T P N all r (pt σ d (mk b)) (⟨some b, cs, cs.length⟩ :: (ows M ++ F)) S Q) := by
          intro cs mk hq b
          obtain ⟨e, h1, _⟩ := he b 0 u0
          have h2 := h b 0 u0 e h1 trivial
          simp only at h1
          rw [hq] at h1
          unfold efNew at h1
          split at h1
          · obtain rfl := Option.some.inj h1
            exact h2
          · cases h1
        have ob : ∀ {a b : Nat} {q : List (Ob × Ob)}, (∀ p ∈ q, p.1 = p.2) → (Ob.n a, Ob.n b) ∈ q → a = b := fun hq hm => by
          have := hq _ hm
          injection this
        cases k
        case ld z x =>
          obtain ⟨e, h1, hq⟩ := he 0 0 u0
          have h2 := h 0 0 u0 e h1 trivial
          simp only [efK] at h1
          split at h1
          · rename_i c k e0 hx he
            obtain ⟨_, g2⟩ := lk0_some he
            have hx := ptrOf_some hx
            unfold efLd at h1
            split at h1
            · rename_i c' hb
              split at h1
              · rename_i v hv
                obtain rfl := Option.some.inj h1
                obtain rfl : c = c' := ob hq (by simp)
                exact t_v (.ld1 hw rfl hx (r1_lk g2 hb hv)) h2
              · cases h1
            · rename_i c' z hb
              split at h1
              · rename_i vs hv
                obtain rfl := Option.some.inj h1
                obtain rfl : c = c' := ob hq (by simp)
                exact t_v (.ldn hw rfl hx (rn_lk g2 hb hv)) h2
              · cases h1
            · cases h1
          · cases h1
        case st z x y =>
          obtain ⟨e, h1, hq⟩ := he 0 0 u0
          have h2 := h 0 0 u0 e h1 trivial
          simp only [efK] at h1
          split at h1
          · rename_i c k v e0 hx hy he
            obtain ⟨_, g2⟩ := lk0_some he
            have hx := ptrOf_some hx
            unfold efSt at h1
            split at h1
            · rename_i c' hb
              split at h1
              · rename_i cs hc hs
                obtain rfl := Option.some.inj h1
                obtain rfl : c = c' := ob hq (by simp)
                simp only [Bool.and_eq_true, decide_eq_true_eq] at hc
                simp only at h2
                rw [ap1] at h2
                obtain ⟨eb, ecs, en⟩ := e0
                simp only at hb
                subst hb
                refine t_vs (VS.perm (take1 nd g2)) ?_
                exact t_sti 0 (cs0 := ecs) (m := en) rfl hw hx hy rfl hc.1 hc.2 hs rfl h2
              · cases h1
            · cases h1
          · cases h1
        case new z =>
          exact t_a (.new hw rfl) fun b _ _ => newb (cs := z) (mk := ptrTo) (fun b n => rfl) b
        case box x =>
          cases hx : ev σ x with
          | none => obtain ⟨e, h1, _⟩ := he 0 0 u0; simp only [efK, hx] at h1; cases h1
          | some v => exact t_a (.box hw rfl hx) fun b _ _ => newb (cs := cl v) (mk := ptrTo) (fun b n => by simp only [efK, hx]) b
        case bsl z n' ps =>
          cases hx : evp σ ps with
          | none => obtain ⟨e, h1, _⟩ := he 0 0 u0; simp only [efK, hx] at h1; cases h1
          | some vs =>
            cases hc : lay z vs with
            | none => obtain ⟨e, h1, _⟩ := he 0 0 u0; simp only [efK, hx, hc] at h1; cases h1
            | some cs => exact t_a (.bsl hw rfl hx hc) fun b _ _ => newb (cs := cs) (mk := slTo n') (fun b n => by simp only [efK, hx, hc]) b
        case mks z bytes zero l c =>
          obtain ⟨e, h1, _⟩ := he 0 0 u0
          simp only [efK] at h1
          split at h1
          · rename_i kl n' kc m hx hy
            split at h1
            · rename_i hc
              simp only [decide_eq_true_eq] at hc
              obtain ⟨c0, c1, c2, c3⟩ := hc
              refine t_mks rfl hw hx hy c0 c1 c2 c3 rfl fun b _ _ => ?_
              obtain ⟨e, h1, _⟩ := he b 0 u0
              have h2 := h b 0 u0 e h1 trivial
              simp only [efK, hx, hy] at h1
              rw [decide_eq_true (And.intro c0 ⟨c1, c2, c3⟩)] at h1
              simp only [efNew] at h1
              split at h1
              · obtain rfl := Option.some.inj h1
                exact h2
              · cases h1
            · cases h1
          · cases h1
        case app e' z bytes zero x y =>
          obtain ⟨e, h1, hq⟩ := he 0 0 u0
          simp only [efK] at h1
          split at h1
          · rename_i _ b2 k2 m _ e0 hx hy h0
            obtain ⟨j, g2⟩ := lk1_some h0
            unfold efA0 at h1
            split at h1
            · rename_i c' news hb hn hlb
              split at h1
              · rename_i hc
                simp only [decide_eq_true_eq] at hc
                obtain ⟨c0, c1, c2, c3⟩ := hc
                obtain rfl := Option.some.inj h1
                obtain rfl : b2 = c' := ob hq (by simp)
                refine t_app0 rfl hw hx hy (rn_lk g2 hb hn) c0 c1 c2 c3 fun b n _ _ => ?_
                obtain ⟨e, h1, _⟩ := he b n u0
                have h2 := h b n u0 e h1 trivial
                simp only [efK, hx, hy, h0, efA0, hb, hn, hlb] at h1
                rw [decide_eq_true (And.intro c0 ⟨c1, c2, c3⟩)] at h1
                obtain rfl := Option.some.inj h1
                exact h2
              · cases h1
            · cases h1
          · rename_i c1 n1 cap b2 k2 m cp e1 e0 hx hy he1 h0
            obtain ⟨j, g2⟩ := lk1_some h0
            obtain ⟨_, g1⟩ := lk0_some he1
            unfold efA1 at h1
            split at h1
            · rename_i d1 c' news hb1 hb hn
              split at h1
              · rename_i hc
                have hcc := hc
                simp only [Bool.and_eq_true, decide_eq_true_eq] at hc
                obtain ⟨c0, c1', c2, c3, c4⟩ := hc
                obtain rfl := Option.some.inj h1
                obtain rfl : c1 = d1 := ob hq (by simp)
                obtain rfl : b2 = c' := ob hq (by simp)
                have hcap : e1.n / z = cap := ob hq (by simp)
                have hpm : (ows M ++ F).Perm ([⟨some c1, e1.cs, e1.n⟩] ++ (ows (rmM [hl.headD 0] M) ++ F)) := by
                  have : e1 = ⟨some c1, e1.cs, e1.n⟩ := by rw [← hb1]
                  rw [← this]
                  exact take1 nd g1
                refine t_app1 rfl hw hx hy hpm (rn_lk g2 hb hn) c0 c1' hcap c2 c3 c4 fun b' M' => ?_
                obtain ⟨e, h1, _⟩ := he b' M' u0
                have h2 := h b' M' u0 e h1 trivial
                simp only [efK, hx, hy, h0, he1, efA1, hb, hb1, hn] at h1
                rw [hcc] at h1
                obtain rfl := Option.some.inj h1
                simp only at h2
                rw [ap1] at h2
                exact h2
              · cases h1
            · cases h1
          · cases h1
        case eqt neg t x y =>
          obtain ⟨e, h1, _⟩ := he 0 0 u0
          have h2 := h 0 0 u0 e h1 trivial
          simp only [efK] at h1
          split at h1
          · rename_i u v hx hy
            split at h1
            · rename_i r hr
              obtain rfl := Option.some.inj h1
              exact t_v (.eqt hw rfl hx hy hr rfl) h2
            · cases h1
          · cases h1
        all_goals exact quiet1 fun b n => rfl
end
end Go.Proofs.YtobjaddicodiaaaDoorE
end

section
/- Runs of operations: in their order; in whatever order. Own work. -/
namespace Go.Proofs.YtobjaddicodiaaaDoorE
open Go Go.RowKit
set_option linter.unusedVariables false
set_option linter.unusedSimpArgs false

structure Na where
  c : Co
  b : Nat
  n : Nat
  l : L5
def rn (P : Program) (S : Seal) : List Na → Sl → Mem → Option (Sl × Mem × List (Ob × Ob))
  | [], σ, M => some (σ, M, [])
  | x :: r, σ, M => match ef P S x.c x.b x.n x.l σ M with
    | some e => match rn P S r (pt σ x.c.o.d e.v) (e.m.ap M) with
      | some (σ', M', q) => some (σ', M', e.q ++ q)
      | none => none
    | none => none
/-- The names that are wanted, no others. -/
def nmz (c : Co) (p : Nat × Nat) : Nat × Nat := match nnC c with
  | 0 => (0, 0)
  | 1 => (p.1, 0)
  | _ => p
def lC (c : Co) (μ : Nat → U) : L5 := match c.sp with
  | some (j, p) => tr p.t (μ j)
  | none => ⟨[], [], [], [], []⟩
def mk1' (c : Co) (i : Nat) (ν : Nat → Nat) (μ : Nat → U) : Na := ⟨c, (nmz c (ν i, ν (i + 1))).1, (nmz c (ν i, ν (i + 1))).2, lC c μ⟩
def mkL : List Co → Nat → (Nat → Nat) → (Nat → U) → List Na
  | [], _, _, _ => []
  | c :: r, i, ν, μ => mk1' c i ν μ :: mkL r (i + nnC c) ν μ
def tot : List Co → Nat
  | [] => 0
  | c :: r => nnC c + tot r
def ctr : List Co → Nat → Nat
  | [], _ => 0
  | _ :: _, 0 => 0
  | c :: r, j + 1 => nnC c + ctr r j
theorem nn_le (k : K) : nn k ≤ 2 := by cases k <;> simp [nn]
theorem nnC_le (c : Co) : nnC c ≤ 2 := by
  unfold nnC
  split
  · exact nn_le _
  · omega
theorem nmz_congr {c : Co} {a b a' b' : Nat} (h0 : 0 < nnC c → a = a') (h1 : 1 < nnC c → b = b') : nmz c (a, b) = nmz c (a', b') := by
  have hk := nnC_le c
  unfold nmz
  rcases hn : nnC c with _ | _ | n
  · rfl
  · simp only [h0 (by omega)]
  · rw [h0 (by omega), h1 (by omega)]
theorem ef_nmz {P : Program} {S : Seal} {c : Co} {b n : Nat} {l : L5} {σ : Sl} {M : Mem} : ef P S c (nmz c (b, n)).1 (nmz c (b, n)).2 l σ M = ef P S c b n l σ M := by
  unfold ef
  cases hs : c.sp with
  | some p => rfl
  | none =>
    have : efK P S σ M c.hl c.lb (nmz c (b, n)).1 (nmz c (b, n)).2 c.o.k = efK P S σ M c.hl c.lb b n c.o.k := by
      unfold nmz nnC
      rw [hs]
      simp only
      cases c.o.k <;> rfl
    simp only [this]
theorem mkL_congr : ∀ (C : List Co) (i : Nat) (ν ν' : Nat → Nat) (μ μ' : Nat → U), (∀ j, i ≤ j → j < i + tot C → ν j = ν' j) → (∀ c ∈ C, lC c μ = lC c μ') → mkL C i ν μ = mkL C i ν' μ'
  | [], _, _, _, _, _, _, _ => rfl
  | c :: r, i, ν, ν', μ, μ', h, hl => by
    simp only [mkL, mk1']
    rw [nmz_congr (c := c) (fun h0 => h i (Nat.le_refl _) (by simp only [tot]; omega)) (fun h1 => h (i + 1) (by omega) (by simp only [tot]; omega)), hl c (by simp),
      mkL_congr r (i + nnC c) ν ν' μ μ' (fun j hj hj2 => h j (by omega) (by simp only [tot]; omega)) (fun d hd => hl d (by simp [hd]))]

/-- It comes to something, and what is to be equal is. -/
def Fin0 (x : Option (Sl × Mem × List (Ob × Ob))) : Prop := ∃ r, x = some r ∧ ∀ p ∈ r.2.2, p.1 = p.2
theorem fin_cons {P : Program} {S : Seal} {x : Na} {r : List Na} {σ : Sl} {M : Mem} (h : Fin0 (rn P S (x :: r) σ M)) :
    ∃ e, ef P S x.c x.b x.n x.l σ M = some e ∧ (∀ p ∈ e.q, p.1 = p.2) ∧ Fin0 (rn P S r (pt σ x.c.o.d e.v) (e.m.ap M)) := by
  obtain ⟨⟨σ2, M2, q2⟩, h, hq⟩ := h
  simp only [rn] at h
  split at h
  · rename_i e he
    refine ⟨e, he, ?_⟩
    split at h
    · rename_i σ' M' q hr
      simp only [Option.some.injEq, Prod.mk.injEq] at h
      obtain ⟨rfl, rfl, rfl⟩ := h
      exact ⟨fun p hp => hq p (List.mem_append_left _ hp), _, hr, fun p hp => hq p (List.mem_append_right _ hp)⟩
    · cases h
  · cases h
def own1 (i k b n : Nat) (ν : Nat → Nat) : Nat → Nat := fun j => if j < i + k then (if j = i then b else n) else ν j
def updC (c : Co) (u : U) (μ : Nat → U) : Nat → U := match c.sp with
  | some (j, _) => fun i => if i = j then u else μ i
  | none => μ
theorem lC_upd (c : Co) (u : U) (μ : Nat → U) : lC c (updC c u μ) = trC c u := by
  unfold lC updC trC
  cases c.sp with
  | none => rfl
  | some p => simp
def jC (c : Co) : Option Nat := c.sp.map Prod.fst
def jx (C : List Co) : List Nat := C.filterMap jC
theorem lC_off {c d : Co} {u : U} {μ : Nat → U} (h : ∀ j, jC c = some j → jC d ≠ some j) : lC d (updC c u μ) = lC d μ := by
  unfold lC updC
  cases hd : d.sp with
  | none => rfl
  | some p =>
    obtain ⟨j, p⟩ := p
    cases hc : c.sp with
    | none => rfl
    | some p' =>
      obtain ⟨j', p'⟩ := p'
      simp only
      rw [if_neg]
      intro e
      exact h j' (by simp [jC, hc]) (by simp [jC, hd, e])
theorem nmz_own {c : Co} {i b n : Nat} {ν : Nat → Nat} : nmz c (own1 i (nnC c) b n ν i, own1 i (nnC c) b n ν (i + 1)) = nmz c (b, n) := by
  refine nmz_congr (fun h => ?_) (fun h => ?_)
  · unfold own1; rw [if_pos (by omega), if_pos rfl]
  · unfold own1; rw [if_pos (by omega), if_neg (by omega)]
def SPs (P : Program) (S : Seal) (C : List Co) : Prop := ∀ c ∈ C, ∀ j p, c.sp = some (j, p) → SpOK P S p
def Fa (C : List Co) (μ : Nat → U) : Prop := ∀ c ∈ C, Φ c (lC c μ)
def ν0 : Nat → Nat := fun _ => 0
def μ0 : Nat → U := fun _ => ⟨fun _ => 0, fun _ => none, fun _ => none, fun _ => [], fun _ => []⟩

section
variable {P : Program} {N : Nat} {all : Array Oper} {r : List O} {σ : Sl} {H F : List Own} {S : Seal} {Q : Pst}
theorem t_seq : ∀ (C : List Co) (i : Nat) {σ : Sl} {M : Mem} {H : List Own}, H.Perm (ows M ++ F) → Nd M → SPs P S C → (jx C).Nodup → (∀ ν μ, Fin0 (rn P S (mkL C i ν μ) σ M)) →
    (∀ ν μ σ' M' q, rn P S (mkL C i ν μ) σ M = some (σ', M', q) → Fa C μ → T P N all r σ' (ows M' ++ F) S Q) → T P N all (C.map (·.o) ++ r) σ H S Q
  | [], i, σ, M, H, hp, nd, _, _, hv, hK => t_vs (VS.perm hp) (hK ν0 μ0 σ M [] rfl fun c hc => by cases hc)
  | c :: C, i, σ, M, H, hp, nd, hs, hj, hv, hK => by
    have head : ∀ (b n : Nat) (u : U) (ν : Nat → Nat) (μ : Nat → U), mkL (c :: C) i (own1 i (nnC c) b n ν) (updC c u μ) = ⟨c, (nmz c (b, n)).1, (nmz c (b, n)).2, trC c u⟩ :: mkL C (i + nnC c) ν μ := by
      intro b n u ν μ
      simp only [mkL, mk1']
      rw [nmz_own, lC_upd]
      congr 1
      refine mkL_congr _ _ _ _ _ _ (fun j hj _ => if_neg (by omega)) fun d hd => lC_off fun j h1 h2 => ?_
      simp only [jx, List.filterMap_cons, h1, List.nodup_cons] at hj
      exact hj.1 (List.mem_filterMap.2 ⟨d, hd, h2⟩)
    have hj' : (jx C).Nodup := by
      cases h : jC c with
      | none => simpa [jx, List.filterMap_cons, h] using hj
      | some j => simp only [jx, List.filterMap_cons, h, List.nodup_cons] at hj; exact hj.2
    refine op_ok hp nd (hs c (by simp)) (fun b n u => ?_) fun b n u e he hφ => ?_
    · have h0 := hv (own1 i (nnC c) b n ν0) (updC c u μ0)
      rw [head] at h0
      obtain ⟨e, he, hq, _⟩ := fin_cons h0
      exact ⟨e, by rw [← ef_nmz]; exact he, hq⟩
    · refine t_seq C (i + nnC c) (List.Perm.refl _) (nd_ap (ef_w he) nd) (fun d hd => hs d (by simp [hd])) hj' (fun ν μ => ?_) fun ν μ σ' M' q hr hf => ?_
      · have h0 := hv (own1 i (nnC c) b n ν) (updC c u μ)
        rw [head] at h0
        obtain ⟨e', he', _, hf⟩ := fin_cons h0
        have he' : ef P S c b n (trC c u) σ M = some e' := by rw [← ef_nmz]; exact he'
        rw [he] at he'
        obtain rfl := Option.some.inj he'
        exact hf
      · refine hK (own1 i (nnC c) b n ν) (updC c u μ) σ' M' (e.q ++ q) ?_ ?_
        · rw [head]
          simp only [rn]
          rw [ef_nmz, he]
          simp only [hr]
        · intro d hd
          rcases List.mem_cons.1 hd with rfl | hd
          · rw [lC_upd]; exact hφ
          · rw [lC_off fun j h1 h2 => ?_]
            · exact hf d hd
            · simp only [jx, List.filterMap_cons, h1, List.nodup_cons] at hj
              exact hj.1 (List.mem_filterMap.2 ⟨d, hd, h2⟩)
end

/-! ### in whatever order -/
def ap2 (x y : Co) : Bool := apartO x.o y.o && ((wl x).all (fun j => !(tl y).contains j) && (wl y).all (fun j => !(tl x).contains j))
def c0 : Co := ⟨⟨none, .fail, none⟩, [], 0, none⟩
def ndN : List Nat → Bool
  | [] => true
  | a :: r => !r.contains a && ndN r
def conf (C : List Co) (ds : List (List Nat)) : Bool :=
  let m := masks ds []
  C.length == ds.length && (List.range C.length).all fun j => (ds.getD j []).all (· < j) && (List.range j).all fun i => (m.getD j 0).testBit i || ap2 (C.getD i c0) (C.getD j c0)
structure Conf (C : List Co) (ds : List (List Nat)) : Prop where
  len : C.length = ds.length
  back : ∀ j < C.length, ∀ e ∈ ds.getD j [], e < j
  ap : ∀ j < C.length, ∀ i < j, Bef ds j i ∨ ap2 (C.getD i c0) (C.getD j c0) = true
theorem conf_of {C : List Co} {ds : List (List Nat)} (h : conf C ds = true) : Conf C ds := by
  unfold conf at h
  simp only [List.all_eq_true, List.mem_range, Bool.and_eq_true, Bool.or_eq_true, decide_eq_true_eq, beq_iff_eq] at h
  have hb := masks_bef (full := ds) ds [] (by simp) (by intro j i h; simp at h)
  exact ⟨h.1, fun j hj e he => (h.2 j hj).1 e he, fun j hj i hi => ((h.2 j hj).2 i hi).imp (hb j i) id⟩
structure Ap (x y : Co) : Prop where
  d1 : ∀ d, x.o.d = some d → d ∉ oT y.o ∧ y.o.d ≠ some d
  d2 : ∀ d, y.o.d = some d → d ∉ oT x.o
  w1 : ∀ j ∈ wl x, j ∉ tl y
  w2 : ∀ j ∈ wl y, j ∉ tl x
theorem ap2_ap {x y : Co} (h : ap2 x y = true) : Ap x y := by
  simp only [ap2, Bool.and_eq_true, List.all_eq_true, Bool.not_eq_true', List.contains_eq_mem, decide_eq_false_iff_not] at h
  obtain ⟨a1, a2⟩ := apartO_spec h.1
  exact ⟨a1, a2, h.2.1, h.2.2⟩
def Eqv (s s' : Sl × Mem) : Prop := (∀ t, gt s.1 t = gt s'.1 t) ∧ s.2.Perm s'.2
theorem gt_pt {σ : Sl} {d : Option Nat} {v : Value} (t : Nat) : gt (pt σ d v) t = if d = some t then some v else gt σ t := by
  cases d with
  | none => simp [pt]
  | some d => simp only [pt, gt, Option.some.injEq]
theorem Eqv.st {s s' : Sl × Mem} (h : Eqv s s') (d : Option Nat) (v : Value) (m : Mm) : Eqv (pt s.1 d v, m.ap s.2) (pt s'.1 d v, m.ap s'.2) :=
  ⟨fun t => by simp only [gt_pt]; rw [h.1 t], perm_ap h.2 m⟩
section
variable {P : Program} {S : Seal}
theorem ef_eqv {c : Co} {b n : Nat} {l : L5} {s s' : Sl × Mem} (h : Eqv s s') (nd : Nd s.2) : ef P S c b n l s'.1 s'.2 = ef P S c b n l s.1 s.2 :=
  ef_agr (fun t _ => (h.1 t).symm) fun j _ => (lk_perm h.2 nd j).symm
theorem rn_congr : ∀ {l : List Na} {s s' : Sl × Mem} {σ1 : Sl} {M1 : Mem} {q : List (Ob × Ob)}, Eqv s s' → Nd s.2 → rn P S l s.1 s.2 = some (σ1, M1, q) →
    ∃ σ1' M1', rn P S l s'.1 s'.2 = some (σ1', M1', q) ∧ Eqv (σ1, M1) (σ1', M1')
  | [], s, s', σ1, M1, q, h, nd, hr => by
    simp only [rn, Option.some.injEq, Prod.mk.injEq] at hr
    obtain ⟨rfl, rfl, rfl⟩ := hr
    exact ⟨_, _, rfl, h⟩
  | ⟨c, b, n, l0⟩ :: l, s, s', σ1, M1, q, h, nd, hr => by
    simp only [rn] at hr ⊢
    rw [ef_eqv h nd]
    split at hr
    · rename_i e he
      split at hr
      · rename_i σ2 M2 q2 h2
        simp only [Option.some.injEq, Prod.mk.injEq] at hr
        obtain ⟨rfl, rfl, rfl⟩ := hr
        obtain ⟨σ', M', g1, g2⟩ := rn_congr (s := (pt s.1 c.o.d e.v, e.m.ap s.2)) (s' := (pt s'.1 c.o.d e.v, e.m.ap s'.2)) (h.st _ _ _) (nd_ap (ef_w he) nd) h2
        simp only at g1
        rw [g1]
        exact ⟨_, _, rfl, g2⟩
      · cases hr
    · cases hr
/-- Two that are apart. -/
theorem ap_comm {x y : Co} (h : Ap x y) {M : Mem} {mx my : Mm} (hx : MW x M mx) (hy : MW y M my) : (my.ap (mx.ap M)).Perm (mx.ap (my.ap M)) := by
  have e1 : rmM my.rm mx.ad = mx.ad := rm_none fun k hk hm => h.w1 k (hx.aw k hk) (by unfold tl; exact List.mem_append_right _ (hy.rh k hm))
  have e2 : rmM mx.rm my.ad = my.ad := rm_none fun k hk hm => h.w2 k (hy.aw k hk) (by unfold tl; exact List.mem_append_right _ (hx.rh k hm))
  have app : ∀ (ls : List Nat) (A B : Mem), rmM ls (A ++ B) = rmM ls A ++ rmM ls B := fun ls A B => List.filter_append ..
  rw [ap_eq, ap_eq, ap_eq mx (my.ap M), ap_eq my M, app, app, e1, e2, rm_rm, rm_rm]
  have e3 : rmM (mx.rm ++ my.rm) M = rmM (my.rm ++ mx.rm) M := by
    unfold rmM
    refine List.filter_congr fun p _ => ?_
    simp only [List.contains_eq_mem, List.mem_append, Bool.decide_or, Bool.not_or]
    rw [Bool.and_comm]
  rw [e3, ← List.append_assoc, ← List.append_assoc]
  exact List.perm_append_comm.append_right _
theorem step_agr {x y : Co} (h : Ap x y) {b n : Nat} {l0 : L5} {σ : Sl} {M : Mem} {v : Value} {m : Mm} (hx : MW x M m) : ef P S y b n l0 (pt σ x.o.d v) (m.ap M) = ef P S y b n l0 σ M := by
  refine ef_agr (fun t ht => ?_) fun j hj => lk_ap hx fun hw => h.w1 j hw hj
  rw [gt_pt, if_neg (fun q => (h.d1 t q).1 ht)]
theorem Ap.symm {x y : Co} (h : Ap x y) : Ap y x := ⟨fun d hd => ⟨h.d2 d hd, fun e => (h.d1 d e).2 hd⟩, fun d hd => (h.d1 d hd).1, h.w2, h.w1⟩
/-- One that comes first may come last. -/
theorem bubble {x : Na} : ∀ {l : List Na} {s : Sl × Mem} {σ1 : Sl} {M1 : Mem} {q : List (Ob × Ob)}, (∀ y ∈ l, Ap x.c y.c) → Nd s.2 → rn P S (x :: l) s.1 s.2 = some (σ1, M1, q) →
    ∃ σ0 M0 q0, rn P S l s.1 s.2 = some (σ0, M0, q0) ∧ ∃ e, ef P S x.c x.b x.n x.l σ0 M0 = some e ∧ (∀ p ∈ e.q, p ∈ q) ∧ (∀ p ∈ q0, p ∈ q) ∧ Eqv (pt σ0 x.c.o.d e.v, e.m.ap M0) (σ1, M1)
  | [], s, σ1, M1, q, _, nd, hr => by
    obtain ⟨c, b, n, l0⟩ := x
    simp only [rn] at hr
    split at hr
    · rename_i e he
      simp only [Option.some.injEq, Prod.mk.injEq] at hr
      obtain ⟨rfl, rfl, rfl⟩ := hr
      exact ⟨_, _, _, rfl, e, he, by simp, by simp, fun _ => rfl, List.Perm.refl _⟩
    · cases hr
  | ⟨y, b', n', l1⟩ :: l, s, σ1, M1, q, h, nd, hr => by
    obtain ⟨c, b, n, l0⟩ := x
    have hxy : Ap c y := h ⟨y, b', n', l1⟩ (by simp)
    simp only [rn] at hr
    split at hr
    · rename_i ex hex
      split at hr
      · rename_i σ2 M2 q2 h2
        simp only [Option.some.injEq, Prod.mk.injEq] at hr
        obtain ⟨rfl, rfl, rfl⟩ := hr
        split at h2
        · rename_i ey hey
          split at h2
          · rename_i σ3 M3 q3 h3
            simp only [Option.some.injEq, Prod.mk.injEq] at h2
            obtain ⟨rfl, rfl, rfl⟩ := h2
            have wx := ef_w hex
            have hey0 := hey
            rw [step_agr hxy wx] at hey
            have wy := ef_w hey
            have hex' : ef P S c b n l0 (pt s.1 y.o.d ey.v) (ey.m.ap s.2) = some ex := by rw [step_agr hxy.symm wy]; exact hex
            have heq : Eqv (pt (pt s.1 c.o.d ex.v) y.o.d ey.v, ey.m.ap (ex.m.ap s.2)) (pt (pt s.1 y.o.d ey.v) c.o.d ex.v, ex.m.ap (ey.m.ap s.2)) := by
              refine ⟨fun t => ?_, ap_comm hxy wx wy⟩
              simp only [gt_pt]
              by_cases e1 : y.o.d = some t
              · have : ¬ c.o.d = some t := fun e => (hxy.d1 t e).2 e1
                simp [e1, this]
              · simp [e1]
            have nd2 : Nd (ey.m.ap (ex.m.ap s.2)) := nd_ap (ef_w hey0) (nd_ap wx nd)
            obtain ⟨σ4, M4, g1, g2⟩ := rn_congr heq nd2 h3
            have hrn : rn P S (⟨c, b, n, l0⟩ :: l) (pt s.1 y.o.d ey.v) (ey.m.ap s.2) = some (σ4, M4, ex.q ++ q3) := by
              simp only [rn, hex']
              simp only at g1
              rw [g1]
            obtain ⟨σ0, M0, q0, k1, e, k2, k3, k3', k4⟩ := bubble (x := ⟨c, b, n, l0⟩) (s := (pt s.1 y.o.d ey.v, ey.m.ap s.2)) (fun z hz => h z (by simp [hz])) (nd_ap wy nd) hrn
            simp only at k1
            refine ⟨σ0, M0, ey.q ++ q0, ?_, e, k2, fun p hp => ?_, fun p hp => ?_, ?_⟩
            · simp only [rn, hey, k1]
            · have := k3 p hp; simp only [List.mem_append] at this ⊢; rcases this with hm | hm <;> simp [hm]
            · simp only [List.mem_append] at hp ⊢
              rcases hp with hp | hp
              · simp [hp]
              · have := k3' p hp; simp only [List.mem_append] at this; rcases this with hm | hm <;> simp [hm]
            · exact ⟨fun t => (k4.1 t).trans (g2.1 t).symm, k4.2.trans g2.2.symm⟩
          · cases h2
        · cases h2
      · cases hr
    · cases hr

/-! ### a part of them -/
def pick {α : Type} : List Bool → List α → List α
  | true :: A, x :: l => x :: pick A l
  | false :: A, _ :: l => pick A l
  | _, _ => []
def Cd : List Bool → List Na → Prop
  | false :: A, x :: L => (∀ y ∈ pick A L, Ap x.c y.c) ∧ Cd A L
  | true :: A, _ :: L => Cd A L
  | _, _ => True
theorem mem_pick {α : Type} : ∀ {A : List Bool} {L : List α} {y : α}, y ∈ pick A L → ∃ j, L[j]? = some y ∧ A.getD j false = true
  | true :: A, x :: l, y, h => by
    rcases List.mem_cons.1 h with rfl | h
    · exact ⟨0, rfl, rfl⟩
    · obtain ⟨j, h1, h2⟩ := mem_pick h; exact ⟨j + 1, by simpa using h1, by simpa using h2⟩
  | false :: A, _ :: l, y, h => by obtain ⟨j, h1, h2⟩ := mem_pick (A := A) h; exact ⟨j + 1, by simpa using h1, by simpa using h2⟩
  | [], _, _, h => by simp [pick] at h
  | true :: _, [], _, h => by simp [pick] at h
  | false :: _, [], _, h => by simp [pick] at h
theorem cd_of : ∀ {A : List Bool} {L : List Na}, (∀ i j x y, i < j → L[i]? = some x → L[j]? = some y → A.getD i false = false → A.getD j false = true → Ap x.c y.c) → Cd A L
  | false :: A, x :: L, h => ⟨fun y hy => by obtain ⟨j, h1, h2⟩ := mem_pick hy; exact h 0 (j + 1) x y (by omega) rfl (by simpa using h1) rfl (by simpa using h2), cd_of fun i j a b hij ha hb h1 h2 => h (i + 1) (j + 1) a b (by omega) (by simpa using ha) (by simpa using hb) (by simpa using h1) (by simpa using h2)⟩
  | true :: A, x :: L, h => by
    unfold Cd
    exact cd_of fun i j a b hij ha hb h1 h2 => h (i + 1) (j + 1) a b (by omega) (by simpa using ha) (by simpa using hb) (by simpa using h1) (by simpa using h2)
  | [], _, _ => by simp [Cd]
  | true :: _, [], _ => by simp [Cd]
  | false :: _, [], _ => by simp [Cd]
def Ag (y : Na) (s s' : Sl × Mem) : Prop := Agr (oT y.c.o) s.1 s'.1 ∧ ∀ j ∈ tl y.c, lk s'.2 j = lk s.2 j
theorem Ag.both {x y : Na} {s s' : Sl × Mem} (hy : Ag y s s') {v : Value} {m : Mm} : Ag y (pt s.1 x.c.o.d v, m.ap s.2) (pt s'.1 x.c.o.d v, m.ap s'.2) := by
  refine ⟨fun t ht => by simp only [gt_pt]; rw [hy.1 t ht], fun j hj => ?_⟩
  simp only [ap_eq, lk_app, lk_rm]
  rw [hy.2 j hj]
theorem Ag.one {x y : Na} {s s' : Sl × Mem} (h : Ap x.c y.c) (hy : Ag y s s') {v : Value} {m : Mm} (hw : MW x.c s.2 m) : Ag y (pt s.1 x.c.o.d v, m.ap s.2) s' := by
  refine ⟨fun t ht => by simp only [gt_pt]; rw [if_neg (fun q => (h.d1 t q).1 ht)]; exact hy.1 t ht, fun j hj => ?_⟩
  simp only
  rw [lk_ap hw fun hm => h.w1 j hm hj]
  exact hy.2 j hj
theorem rn_pick : ∀ {L : List Na} {A : List Bool} {s s' : Sl × Mem} {σ1 : Sl} {M1 : Mem} {q : List (Ob × Ob)}, Cd A L → (∀ y ∈ pick A L, Ag y s s') → rn P S L s.1 s.2 = some (σ1, M1, q) →
    ∃ σ0 M0 q0, rn P S (pick A L) s'.1 s'.2 = some (σ0, M0, q0) ∧ ∀ p ∈ q0, p ∈ q
  | [], A, s, s', σ1, M1, q, _, _, _ => ⟨s'.1, s'.2, [], by cases A with | nil => rfl | cons t A => cases t <;> rfl, by simp⟩
  | x :: L, [], s, s', σ1, M1, q, _, _, _ => ⟨s'.1, s'.2, [], rfl, by simp⟩
  | ⟨c, b, n, l0⟩ :: L, true :: A, s, s', σ1, M1, q, hc, hg, hr => by
    simp only [rn] at hr
    have hx := hg ⟨c, b, n, l0⟩ (by simp [pick])
    split at hr
    · rename_i e he
      split at hr
      · rename_i σ2 M2 q2 h2
        simp only [Option.some.injEq, Prod.mk.injEq] at hr
        obtain ⟨rfl, rfl, rfl⟩ := hr
        have he' : ef P S c b n l0 s'.1 s'.2 = some e := by rw [← he]; exact ef_agr hx.1 hx.2
        obtain ⟨σ0, M0, q0, g1, g2⟩ := rn_pick (A := A) (s := (pt s.1 c.o.d e.v, e.m.ap s.2)) (s' := (pt s'.1 c.o.d e.v, e.m.ap s'.2)) hc (fun y hy => Ag.both (x := ⟨c, b, n, l0⟩) (hg y (by simp [pick, hy]))) h2
        refine ⟨σ0, M0, e.q ++ q0, ?_, fun p hp => ?_⟩
        · simp only [pick, rn, he']
          simp only at g1
          rw [g1]
        · simp only [List.mem_append] at hp ⊢
          exact hp.imp id (g2 p)
      · cases hr
    · cases hr
  | ⟨c, b, n, l0⟩ :: L, false :: A, s, s', σ1, M1, q, hc, hg, hr => by
    simp only [rn] at hr
    split at hr
    · rename_i e he
      split at hr
      · rename_i σ2 M2 q2 h2
        simp only [Option.some.injEq, Prod.mk.injEq] at hr
        obtain ⟨rfl, rfl, rfl⟩ := hr
        obtain ⟨σ0, M0, q0, g1, g2⟩ := rn_pick (A := A) (s := (pt s.1 c.o.d e.v, e.m.ap s.2)) (s' := s') hc.2 (fun y hy => Ag.one (x := ⟨c, b, n, l0⟩) (hc.1 y hy) (hg y hy) (ef_w he)) h2
        exact ⟨σ0, M0, q0, g1, fun p hp => List.mem_append_right _ (g2 p hp)⟩
      · cases hr
    · cases hr
theorem rn_ins {x : Na} : ∀ {L : List Na} {A : List Bool} {i : Nat} {s : Sl × Mem} {σ1 : Sl} {M1 : Mem} {q : List (Ob × Ob)}, L[i]? = some x → A[i]? = some false → (∀ j y, i < j → L[j]? = some y → A.getD j false = true → Ap x.c y.c) → Nd s.2 →
    rn P S (pick (A.set i true) L) s.1 s.2 = some (σ1, M1, q) →
    ∃ σ0 M0 q0, rn P S (pick A L) s.1 s.2 = some (σ0, M0, q0) ∧ ∃ e, ef P S x.c x.b x.n x.l σ0 M0 = some e ∧ (∀ p ∈ e.q, p ∈ q) ∧ Eqv (pt σ0 x.c.o.d e.v, e.m.ap M0) (σ1, M1)
  | [], A, i, s, σ1, M1, q, h, _, _, _, _ => by simp at h
  | a :: L, [], i, s, σ1, M1, q, _, h, _, _, _ => by simp at h
  | a :: L, t :: A, 0, s, σ1, M1, q, h, ht, hap, nd, hr => by
    simp only [List.getElem?_cons_zero, Option.some.injEq] at h ht
    subst h ht
    simp only [List.set_cons_zero, pick] at hr ⊢
    obtain ⟨σ0, M0, q0, g1, e, g2, g3, _, g4⟩ := bubble (fun y hy => by obtain ⟨j, h1, h2⟩ := mem_pick hy; exact hap (j + 1) y (by omega) (by simpa using h1) (by simpa using h2)) nd hr
    exact ⟨σ0, M0, q0, g1, e, g2, g3, g4⟩
  | a :: L, t :: A, i + 1, s, σ1, M1, q, h, ht, hap, nd, hr => by
    simp only [List.getElem?_cons_succ] at h ht
    have hap' : ∀ j y, i < j → L[j]? = some y → A.getD j false = true → Ap x.c y.c := fun j y hj h1 h2 => hap (j + 1) y (by omega) (by simpa using h1) (by simpa using h2)
    simp only [List.set_cons_succ] at hr
    cases t with
    | false => exact rn_ins (A := A) h ht hap' nd hr
    | true =>
      obtain ⟨c, b, n, l0⟩ := a
      simp only [pick, rn] at hr ⊢
      split at hr
      · rename_i e he
        split at hr
        · rename_i σ2 M2 q2 h2
          simp only [Option.some.injEq, Prod.mk.injEq] at hr
          obtain ⟨rfl, rfl, rfl⟩ := hr
          obtain ⟨σ0, M0, q0, g1, e', g2, g3, g4⟩ := rn_ins (A := A) (s := (pt s.1 c.o.d e.v, e.m.ap s.2)) h ht hap' (nd_ap (ef_w he) nd) h2
          simp only at g1
          rw [g1]
          exact ⟨σ0, M0, _, rfl, e', g2, fun p hp => List.mem_append_right _ (g3 p hp), g4⟩
        · cases hr
      · cases hr
theorem rn_nd : ∀ {l : List Na} {σ σ' : Sl} {M M' : Mem} {q : List (Ob × Ob)}, Nd M → rn P S l σ M = some (σ', M', q) → Nd M'
  | [], σ, σ', M, M', q, nd, h => by simp only [rn, Option.some.injEq, Prod.mk.injEq] at h; obtain ⟨rfl, rfl, rfl⟩ := h; exact nd
  | ⟨c, b, n, l0⟩ :: l, σ, σ', M, M', q, nd, h => by
    simp only [rn] at h
    split at h
    · rename_i e he
      split at h
      · rename_i σ2 M2 q2 h2
        simp only [Option.some.injEq, Prod.mk.injEq] at h
        obtain ⟨rfl, rfl, rfl⟩ := h
        exact rn_nd (nd_ap (ef_w he) nd) h2
      · cases h
    · cases h
theorem mkL_get : ∀ (C : List Co) (k : Nat) (ν : Nat → Nat) (μ : Nat → U) (j : Nat), (mkL C k ν μ)[j]? = (C[j]?).map fun c => mk1' c (k + ctr C j) ν μ
  | [], _, _, _, _ => by simp [mkL]
  | c :: r, k, ν, μ, 0 => by simp [mkL, ctr]
  | c :: r, k, ν, μ, j + 1 => by
    simp only [mkL, List.getElem?_cons_succ, ctr]
    rw [mkL_get r (k + nnC c) ν μ j, Nat.add_assoc]
theorem pick_upd : ∀ (C : List Co) (A : List Bool) (k i : Nat) (c : Co) (ν ν' : Nat → Nat) (μ μ' : Nat → U), C[i]? = some c → (∀ j, j < k + ctr C i ∨ k + ctr C i + nnC c ≤ j → ν' j = ν j) → (∀ m d, m ≠ i → C[m]? = some d → lC d μ' = lC d μ) → A[i]? = some false → pick A (mkL C k ν' μ') = pick A (mkL C k ν μ)
  | [], A, _, _, _, _, _, _, _, _, _, _, _ => rfl
  | c :: r, [], _, _, _, _, _, _, _, _, _, _, _ => rfl
  | c :: r, t :: A, k, 0, d, ν, ν', μ, μ', hd, h, hl, ht => by
    simp only [List.getElem?_cons_zero, Option.some.injEq] at ht hd
    subst ht hd
    simp only [mkL, pick]
    rw [mkL_congr r (k + nnC c) ν' ν μ' μ (fun j hj _ => h j (Or.inr (by simp only [ctr]; omega))) fun e he => by
      obtain ⟨m, hm⟩ := List.mem_iff_getElem?.1 he
      exact hl (m + 1) e (by omega) (by simpa using hm)]
  | c :: r, t :: A, k, i + 1, d, ν, ν', μ, μ', hd, h, hl, ht => by
    simp only [List.getElem?_cons_succ] at ht hd
    have := pick_upd r A (k + nnC c) i d ν ν' μ μ' hd (fun j hj => h j (by simp only [ctr]; omega)) (fun m e hm he => hl (m + 1) e (by omega) (by simpa using he)) ht
    cases t <;> simp only [mkL, pick, this, mk1']
    rw [nmz_congr (c := c) (fun h0 => h k (by simp only [ctr]; omega)) (fun h1 => h (k + 1) (by simp only [ctr]; omega)), hl 0 c (by omega) rfl]
theorem pick_all {α : Type} : ∀ {A : List Bool} {L : List α}, A.all id = true → A.length = L.length → pick A L = L
  | [], [], _, _ => rfl
  | [], _ :: _, _, h => by simp at h
  | _ :: _, [], _, h => by simp at h
  | t :: A, x :: L, h, hl => by
    simp only [List.all_cons, id, Bool.and_eq_true] at h
    rw [h.1]
    simp only [pick]
    rw [pick_all h.2 (by simpa using hl)]
theorem pick_rep {α : Type} : ∀ (n : Nat) (L : List α), pick (List.replicate n false) L = []
  | 0, L => by simp [pick]
  | n + 1, [] => rfl
  | n + 1, x :: L => by simp only [List.replicate_succ, pick]; exact pick_rep n L
end
end Go.Proofs.YtobjaddicodiaaaDoorE
end

section
/- A region that draws its order, run in its own order: the rule. Own work. -/
namespace Go.Proofs.YtobjaddicodiaaaDoorE
open Go Go.RowKit
set_option linter.unusedVariables false
set_option linter.unusedSimpArgs false
set_option linter.unnecessarySimpa false

section
variable {P : Program} {N : Nat} {σ : Sl} {H F : List Own} {S : Seal}
theorem w_gameM {Q : Qst} {L : List O} {ds : List (List Nat)} (hmix : P.follows .mixedOrders = true)
    (hG : ∀ (all : Array Oper) (G : List Bool → Sl → List Own → Prop), (∀ A σ H, A.all id = true → Q .nrm σ H S → G A σ H) →
      (∀ (is : List Nat) A σ H, rdyL ds A = is → is ≠ [] → AllR (fun i => T P N all [L.getD i ⟨none, .fail, none⟩] σ H S fun σ' H' S' => G (A.set i true) σ' H' ∧ S' = S) is → G A σ H) →
      (∀ A σ H σ' H', (∀ t v, gt σ' t = some v → gt σ t = some v) → H.Perm H' → G A σ' H' → G A σ H) →
      G (List.replicate ds.length false) σ H) : W P N (.drw L ds) σ H S Q := by
  intro code hc ts0 w0 R hσ hN hH hR
  cases code <;> (try simp only [toC] at hc) <;> (try cases hc; done)
  case region id ops dr =>
    cases dr with
    | false => simp [toC] at hc
    | true =>
    simp only [toC] at hc
    injection hc with e1 e2
    subst e1 e2
    refine wp_region_any hmix ?_
    have lstA : ∀ (listed : Array Bool) (j : Nat), lst listed j = listed.toList.getD j false := fun listed j => by
      unfold lst
      simp [Array.getD_eq_getD_getElem?, List.getD_eq_getElem?_getD]
    have main := hG ops (fun A σ1 H1 => ∀ (fuel : Nat) (listed : Array Bool) (ts : Array Value) (w : World), listed.size = ops.size → listed.toList = A → A.count false ≤ fuel → SlOK σ1 ts → ts.size = N → HOK H1 S w → Step H S w0 H1 S w → wpAny P .any ops R fuel listed ⟨ts, []⟩ w) ?_ ?_ ?_
    · refine main ops.size (Array.replicate ops.size false) ts0 _ (by simp) (by simp) (by simp) hσ hN hH.drew (Step.refl H S w0).drew'
    · intro A σ1 H1 hA hQ fuel listed ts w hs hl hf hσ1 hN1 hH1 hst
      have hall : ∀ i, i < ops.size → lst listed i = true := by
        intro i hi
        rw [lstA, hl]
        have hlen : i < A.length := by rw [← hl]; simpa [hs] using hi
        have := List.all_eq_true.1 hA A[i] (List.getElem_mem hlen)
        simpa [List.getD_eq_getElem?_getD, hlen] using this
      have hr : Region.ready .any ops listed = [] := by
        refine List.eq_nil_iff_forall_not_mem.2 fun i hi => ?_
        obtain ⟨h1, h2, _⟩ := (ready_iff hs).1 hi
        rw [hall i h1] at h2; cases h2
      have hn : R .normal ⟨ts, []⟩ w := hR .nrm σ1 H1 S ts w hQ hσ1 hN1 hH1 hst
      cases fuel with
      | zero => exact ⟨hr, hn⟩
      | succ fuel => exact ⟨fun _ => hn, fun i hi => by rw [hr] at hi; cases hi⟩
    · intro is A σ1 H1 hrd hne hall fuel listed ts w hs hl hf hσ1 hN1 hH1 hst
      have hrdy : ∀ i, i ∈ Region.ready .any ops listed ↔ i ∈ is := by
        intro i
        rw [ready_iff hs, ← hrd]
        unfold rdyL
        simp only [List.mem_filter, List.mem_range, Bool.and_eq_true, Bool.not_eq_true', List.all_eq_true, List.length_map, Array.length_toList, ← hl, ← lstA]
      obtain ⟨i0, hi0⟩ : ∃ i, i ∈ is := by
        cases is with
        | nil => exact absurd rfl hne
        | cons a r => exact ⟨a, List.mem_cons_self⟩
      have hcnt : ∀ i, i ∈ is → A.count false = (A.set i true).count false + 1 := by
        intro i hi
        obtain ⟨h1, h2, _⟩ := (ready_iff hs).1 ((hrdy i).2 hi)
        have hlen : i < A.length := by rw [← hl]; simpa [hs] using h1
        have hfalse : A[i] = false := by
          have := h2
          rw [lstA, hl] at this
          simpa [List.getD_eq_getElem?_getD, hlen] using this
        have hpos : 0 < A.count false := List.count_pos_iff.2 (hfalse ▸ List.getElem_mem hlen)
        rw [List.count_set hlen, hfalse]
        simp
        omega
      cases fuel with
      | zero =>
        have := hcnt i0 hi0
        omega
      | succ fuel =>
        refine ⟨fun hr => ?_, fun i hi => ?_⟩
        · have := (hrdy i0).2 hi0
          rw [hr] at this; cases this
        · have hi' := (hrdy i).1 hi
          obtain ⟨h1, h2, _⟩ := (ready_iff hs).1 hi
          have hp : ops[i]? = some ops[i] := Array.getElem?_eq_getElem h1
          have hT := hall.mem hi'
          have hget : (ops.toList.map (toO P N ops)).getD i ⟨none, .fail, none⟩ = toO P N ops ops[i] := by
            simp [List.getD_eq_getElem?_getD, h1]
          rw [hget] at hT
          refine one_op hp hT hσ1 hN1 hH1 ?_
          rintro σ' H' S' ts' w' ⟨q, rfl⟩ a1 a2 a3 st
          have := hcnt i hi'
          exact q fuel _ ts' w' (by simpa using hs) (by simp [Array.toList_setIfInBounds, hl]) (by omega) a1 a2 a3 (hst.trans st)
    · intro A σ1 H1 σ2 H2 hs hp hG fuel listed ts w h1 h2 h3 hσ1 hN1 hH1 hst
      exact hG fuel listed ts w h1 h2 h3 (fun t v h => hσ1 t v (hs t v h)) hN1 (hH1.perm hp) (hst.perm' hp)

theorem getD_map_o (C : List Co) (i : Nat) : (C.map (·.o)).getD i ⟨none, .fail, none⟩ = (C.getD i c0).o := by
  simp only [List.getD_eq_getElem?_getD, List.getElem?_map]
  cases C[i]? <;> rfl
theorem rdy_spec {ds : List (List Nat)} {A : List Bool} {i : Nat} (h : i ∈ rdyL ds A) : i < ds.length ∧ A.getD i false = false ∧ ∀ e ∈ ds.getD i [], A.getD e false = true := by
  unfold rdyL at h
  simpa [List.mem_filter, List.all_eq_true] using h
theorem getD_set {A : List Bool} {i j : Nat} (hi : i < A.length) : (A.set i true).getD j false = (A.getD j false || decide (j = i)) := by
  simp only [List.getD_eq_getElem?_getD, List.getElem?_set]
  by_cases h : i = j
  · subst h; simp [hi]
  · rw [if_neg h]
    have : ¬ j = i := fun e => h e.symm
    simp [this]

theorem jx_off {C : List Co} (h : (jx C).Nodup) : ∀ {i m : Nat} {c d : Co}, m ≠ i → C[i]? = some c → C[m]? = some d → ∀ j, jC c = some j → jC d ≠ some j := by
  induction C with
  | nil => intro i m c d _ hc; simp at hc
  | cons a r ih =>
    have hr : (jx r).Nodup := by
      cases h1 : jC a with
      | none => simpa [jx, List.filterMap_cons, h1] using h
      | some j => simp only [jx, List.filterMap_cons, h1, List.nodup_cons] at h; exact h.2
    have out : ∀ {d : Co} {j : Nat}, d ∈ r → jC a = some j → jC d ≠ some j := by
      intro d j hd h1 h2
      simp only [jx, List.filterMap_cons, h1, List.nodup_cons] at h
      exact h.1 (List.mem_filterMap.2 ⟨d, hd, h2⟩)
    intro i m c d hne hc hd j h1 h2
    cases i with
    | zero =>
      cases m with
      | zero => exact hne rfl
      | succ m =>
        simp only [List.getElem?_cons_zero, Option.some.injEq] at hc
        simp only [List.getElem?_cons_succ] at hd
        subst hc
        exact out (List.mem_of_getElem? hd) h1 h2
    | succ i =>
      simp only [List.getElem?_cons_succ] at hc
      cases m with
      | zero =>
        simp only [List.getElem?_cons_zero, Option.some.injEq] at hd
        subst hd
        exact out (List.mem_of_getElem? hc) h2 h1
      | succ m =>
        simp only [List.getElem?_cons_succ] at hd
        exact ih hr (by omega) hc hd j h1 h2

theorem w_anyN {Q : Qst} {C : List Co} {ds : List (List Nat)} {M : Mem} {k : Nat} (hmix : P.follows .mixedOrders = true) (hc : conf C ds = true) (hpm : H.Perm (ows M ++ F)) (nd : Nd M) (hs : SPs P S C) (hj : (jx C).Nodup)
    (hv : ∀ ν μ, Fin0 (rn P S (mkL C k ν μ) σ M))
    (hK : ∀ ν μ σ' M' q, rn P S (mkL C k ν μ) σ M = some (σ', M', q) → Fa C μ → Q .nrm σ' (ows M' ++ F) S) : W P N (.drw (C.map (·.o)) ds) σ H S Q := by
  have cf := conf_of hc
  refine w_gameM hmix fun all G hend hstep hmono => ?_
  have key : ∀ (n : Nat) (A : List Bool) (ν : Nat → Nat) (μ : Nat → U) (σ0 : Sl) (M0 : Mem) (q : List (Ob × Ob)) (σ1 : Sl) (H1 : List Own), A.count false = n → A.length = C.length → (∀ j, A.getD j false = true → ∀ e ∈ ds.getD j [], A.getD e false = true) →
      (∀ m d, A.getD m false = true → C[m]? = some d → Φ d (lC d μ)) →
      rn P S (pick A (mkL C k ν μ)) σ M = some (σ0, M0, q) → (∀ t v, gt σ0 t = some v → gt σ1 t = some v) → H1.Perm (ows M0 ++ F) → G A σ1 H1 := by
    intro n
    induction n with
    | zero =>
      intro A ν μ σ0 M0 q σ1 H1 hn hlen hcl hfa hr hs hp
      have hall : A.all id = true := by
        rw [List.all_eq_true]
        intro x hx
        cases x with
        | true => rfl
        | false => exact absurd hx (List.count_eq_zero.1 hn)
      have hL : pick A (mkL C k ν μ) = mkL C k ν μ := by
        refine pick_all hall ?_
        have : ∀ (C : List Co) (k : Nat), (mkL C k ν μ).length = C.length := by
          intro C
          induction C with
          | nil => intro k; rfl
          | cons c r ih => intro k; simp [mkL, ih]
        rw [this, hlen]
      rw [hL] at hr
      refine hmono A σ1 H1 σ0 (ows M0 ++ F) hs hp (hend A σ0 (ows M0 ++ F) hall (hK ν μ σ0 M0 q hr fun c hc => ?_))
      obtain ⟨m, hm⟩ := List.mem_iff_getElem?.1 hc
      refine hfa m c ?_ hm
      have hlt : m < A.length := by rw [hlen]; exact (List.getElem?_eq_some_iff.1 hm).1
      have := List.all_eq_true.1 hall A[m] (List.getElem_mem hlt)
      simpa [List.getD_eq_getElem?_getD, hlt] using this
    | succ n ih =>
      intro A ν μ σ0 M0 q σ1 H1 hn hlen hcl hfa hr hs' hp
      refine hmono A σ1 H1 σ0 (ows M0 ++ F) hs' hp ?_
      -- some operation may come next
      have hne : rdyL ds A ≠ [] := by
        intro hrd
        have hx : ¬ ∀ j < C.length, (fun j => A.getD j false) j = true := by
          intro hall
          have : A.count false = 0 := by
            refine List.count_eq_zero.2 fun hm => ?_
            obtain ⟨j, hj, hv⟩ := List.getElem_of_mem hm
            have := hall j (by omega)
            simp only [List.getD_eq_getElem?_getD, List.getElem?_eq_getElem hj, Option.getD_some, hv] at this
            cases this
          omega
        obtain ⟨j, hj, hj1, hj2⟩ := least C.length hx
        have : j ∈ rdyL ds A := by
          unfold rdyL
          simp only [List.mem_filter, List.mem_range, Bool.and_eq_true, Bool.not_eq_true', List.all_eq_true]
          exact ⟨by rw [← cf.len]; exact hj, hj1, fun e he => hj2 e (cf.back j hj e he)⟩
        rw [hrd] at this
        cases this
      refine hstep (rdyL ds A) A σ0 (ows M0 ++ F) rfl hne ?_
      have each : ∀ i ∈ rdyL ds A, T P N all [(C.map (·.o)).getD i ⟨none, .fail, none⟩] σ0 (ows M0 ++ F) S fun σ' H' S' => G (A.set i true) σ' H' ∧ S' = S := by
        intro i hi
        obtain ⟨hi1, hi2, hi3⟩ := rdy_spec hi
        have hiC : i < C.length := by rw [cf.len]; exact hi1
        have hiA : i < A.length := by rw [hlen]; exact hiC
        have hAi : A[i]? = some false := by
          simp only [List.getD_eq_getElem?_getD, List.getElem?_eq_getElem hiA, Option.getD_some] at hi2
          rw [List.getElem?_eq_getElem hiA, hi2]
        rw [getD_map_o]
        have hCi : C[i]? = some (C.getD i c0) := by simp [List.getD_eq_getElem?_getD, List.getElem?_eq_getElem hiC]
        have hcl' : ∀ j, (A.set i true).getD j false = true → ∀ e ∈ ds.getD j [], (A.set i true).getD e false = true := by
          intro j hj e he
          rw [getD_set hiA] at hj ⊢
          simp only [Bool.or_eq_true, decide_eq_true_eq] at hj ⊢
          rcases hj with hj | rfl
          · exact Or.inl (hcl j hj e he)
          · exact Or.inl (hi3 e he)
        have off : ∀ u m d, m ≠ i → C[m]? = some d → lC d (updC (C.getD i c0) u μ) = lC d μ := fun u m d hm hd => lC_off fun j h1 h2 => jx_off hj hm hCi hd j h1 h2
        have core : ∀ b nm u, ∃ (ν' : Nat → Nat) (e : Ef) (σa : Sl) (Ma : Mem) (qa : List (Ob × Ob)), ef P S (C.getD i c0) b nm (trC (C.getD i c0) u) σ0 M0 = some e ∧ (∀ p ∈ e.q, p.1 = p.2) ∧
            rn P S (pick (A.set i true) (mkL C k ν' (updC (C.getD i c0) u μ))) σ M = some (σa, Ma, qa) ∧ Eqv (pt σ0 (C.getD i c0).o.d e.v, e.m.ap M0) (σa, Ma) := by
          intro b nm u
          obtain ⟨ν', hν⟩ : ∃ ν' : Nat → Nat, ν' = fun j => if k + ctr C i ≤ j ∧ j < k + ctr C i + nnC (C.getD i c0) then (if j = k + ctr C i then b else nm) else ν j := ⟨_, rfl⟩
          obtain ⟨μ', hμ⟩ : ∃ μ' : Nat → U, μ' = updC (C.getD i c0) u μ := ⟨_, rfl⟩
          rw [← hμ]
          have hpk : pick A (mkL C k ν' μ') = pick A (mkL C k ν μ) := pick_upd C A k i _ ν ν' μ μ' hCi (fun j hj => by rw [hν]; exact if_neg (by omega)) (fun m d hm hd => by rw [hμ]; exact off u m d hm hd) hAi
          have hνi : nmz (C.getD i c0) (ν' (k + ctr C i), ν' (k + ctr C i + 1)) = nmz (C.getD i c0) (b, nm) := by
            refine nmz_congr (fun h0 => ?_) (fun h1 => ?_)
            · rw [hν]; simp only; rw [if_pos (by omega), if_pos trivial]
            · rw [hν]; simp only; rw [if_pos (by omega), if_neg (by omega)]
          obtain ⟨⟨σF, MF, qF⟩, hfull, hq⟩ := hv ν' μ'
          have elem : ∀ j x, (mkL C k ν' μ')[j]? = some x → j < C.length ∧ x.c = C.getD j c0 := by
            intro j x hx
            rw [mkL_get] at hx
            cases hc : C[j]? with
            | none => rw [hc] at hx; cases hx
            | some c =>
              rw [hc] at hx
              simp only [Option.map_some, Option.some.injEq] at hx
              refine ⟨(List.getElem?_eq_some_iff.1 hc).1, ?_⟩
              rw [← hx]
              simp [List.getD_eq_getElem?_getD, hc, mk1']
          have hcd : Cd (A.set i true) (mkL C k ν' μ') := by
            refine cd_of fun a c x y hac hx hy h1 h2 => ?_
            obtain ⟨_, ex⟩ := elem a x hx
            obtain ⟨hcl2, ey⟩ := elem c y hy
            rw [ex, ey]
            rcases cf.ap c hcl2 a hac with hb | hb
            · have := bef_listed hcl' hb (hcl' c h2)
              rw [this] at h1; cases h1
            · exact ap2_ap hb
          obtain ⟨σa, Ma, qa, k1, k2⟩ := rn_pick (s := (σ, M)) (s' := (σ, M)) hcd (fun y hy => ⟨fun t _ => rfl, fun j _ => rfl⟩) hfull
          have hx : (mkL C k ν' μ')[i]? = some ⟨C.getD i c0, (nmz (C.getD i c0) (b, nm)).1, (nmz (C.getD i c0) (b, nm)).2, trC (C.getD i c0) u⟩ := by
            rw [mkL_get, hCi]; simp only [Option.map_some, mk1']; rw [hνi, hμ, lC_upd]
          obtain ⟨σb, Mb, qb, m1, e, m2, m3, m4⟩ := rn_ins (s := (σ, M)) hx hAi (fun j y hij hy h2 => by
            obtain ⟨hcl2, ey⟩ := elem j y hy
            simp only
            rw [ey]
            rcases cf.ap j hcl2 i hij with hb | hb
            · have := bef_listed hcl hb (hcl j h2)
              rw [this] at hi2; cases hi2
            · exact ap2_ap hb) nd k1
          rw [hpk] at m1
          simp only at m1 m2 m4
          rw [hr] at m1
          simp only [Option.some.injEq, Prod.mk.injEq] at m1
          obtain ⟨rfl, rfl, rfl⟩ := m1
          exact ⟨ν', e, σa, Ma, qa, by rw [← ef_nmz]; exact m2, fun p hp => hq p (k2 p (m3 p hp)), k1, m4⟩
        refine op_ok (List.Perm.refl _) (rn_nd nd hr) (hs _ (List.mem_of_getElem? hCi)) (fun b nm u => ?_) fun b nm u e he hφ => ?_
        · obtain ⟨_, e, _, _, _, h1, h2, _⟩ := core b nm u
          exact ⟨e, h1, h2⟩
        · obtain ⟨ν', e', σa, Ma, qa, h1, _, k1, m4⟩ := core b nm u
          rw [he] at h1
          obtain rfl := Option.some.inj h1
          refine t_nil ⟨?_, rfl⟩
          refine ih (A.set i true) ν' (updC (C.getD i c0) u μ) σa Ma qa _ _ ?_ (by simpa using hlen) hcl' (fun m d hm hd => ?_) k1 (fun t v hv => ?_) ((ows_perm m4.2).append_right F)
          · have hfalse : A[i] = false := by rw [List.getElem?_eq_getElem hiA] at hAi; exact Option.some.inj hAi
            have hpos : 0 < A.count false := List.count_pos_iff.2 (hfalse ▸ List.getElem_mem hiA)
            rw [List.count_set hiA, hfalse]
            simp
            omega
          · by_cases hmi : m = i
            · subst hmi
              rw [hCi] at hd
              obtain rfl := Option.some.inj hd
              rw [lC_upd]; exact hφ
            · rw [off u m d hmi hd]
              rw [getD_set hiA] at hm
              simp only [Bool.or_eq_true, decide_eq_true_eq] at hm
              exact hfa m d (hm.resolve_right hmi) hd
          · have := m4.1 t
            simp only at this
            rw [this]; exact hv
      have : ∀ l : List Nat, (∀ i ∈ l, i ∈ rdyL ds A) → AllR (fun i => T P N all [(C.map (·.o)).getD i ⟨none, .fail, none⟩] σ0 (ows M0 ++ F) S fun σ' H' S' => G (A.set i true) σ' H' ∧ S' = S) l := by
        intro l
        induction l with
        | nil => intro _; trivial
        | cons a l ihl => intro hl; exact ⟨each a (hl a (by simp)), ihl fun i hi => hl i (by simp [hi])⟩
      exact this _ fun i hi => hi
  refine key _ (List.replicate ds.length false) ν0 μ0 σ M [] σ H rfl (by simp [cf.len]) (fun j hj => ?_) (fun m d hm => ?_) ?_ (fun t v hv => hv) hpm
  · simp only [List.getD_eq_getElem?_getD, List.getElem?_replicate] at hj
    split at hj <;> cases hj
  · simp only [List.getD_eq_getElem?_getD, List.getElem?_replicate] at hm
    split at hm <;> cases hm
  · rw [pick_rep]; rfl
end
end Go.Proofs.YtobjaddicodiaaaDoorE
end

section
/- Code whose way is known, run at once. Own work. -/
namespace Go.Proofs.YtobjaddicodiaaaDoorE
open Go Go.RowKit
set_option linter.unusedVariables false
set_option linter.unusedSimpArgs false

/-- Operations so far, next label, told ones so far, hints left, told ones left. -/
structure Cn where
  oc : Nat
  lb : Nat
  j : Nat
  hs : List Nat
  sp : List (Nat × Sp)
def nh : K → Nat
  | .ld _ _ | .st _ _ _ => 1
  | .app _ _ _ _ _ _ => 2
  | _ => 0
def plO (s : Cn) (o : O) : Co × Cn := (⟨o, s.hs.take (nh o.k), s.lb, none⟩, ⟨s.oc + 1, s.lb + min (nn o.k) 1, s.j, s.hs.drop (nh o.k), s.sp⟩)
def oneO (s : Cn) (o : O) : Co × Cn := match s.sp with
  | (c, p) :: ps => if c = s.oc then (⟨o, s.hs.take (p.A.length + p.R.length), s.lb, some (s.j, p)⟩, ⟨s.oc + 1, s.lb + p.nb, s.j + 1, s.hs.drop (p.A.length + p.R.length), ps⟩) else plO s o
  | [] => plO s o
def asg : Cn → List O → List Co × Cn
  | s, [] => ([], s)
  | s, o :: r => ((oneO s o).1 :: (asg (oneO s o).2 r).1, (asg (oneO s o).2 r).2)
def Inv (all : List (Nat × Sp)) (s : Cn) : Prop := s.sp = all.drop s.j
theorem one_spec {all : List (Nat × Sp)} {s : Cn} {o : O} (h : Inv all s) : (oneO s o).1.o = o ∧ Inv all (oneO s o).2 ∧
    (((oneO s o).1.sp = none ∧ (oneO s o).2.j = s.j) ∨ ∃ c p, (oneO s o).1.sp = some (s.j, p) ∧ (oneO s o).2.j = s.j + 1 ∧ all[s.j]? = some (c, p)) := by
  unfold oneO
  split
  · rename_i c p ps hs
    split
    · have h1 : all.drop s.j = (c, p) :: ps := by rw [← hs]; exact h.symm
      have hg : all[s.j]? = some (c, p) := by
        have := congrArg (·[0]?) h1
        simpa using this
      refine ⟨rfl, ?_, Or.inr ⟨c, p, rfl, rfl, hg⟩⟩
      have := congrArg (List.drop 1) h1
      simp only [List.drop_drop, List.drop_succ_cons, List.drop_zero] at this
      unfold Inv
      simp only
      rw [this]
    · exact ⟨rfl, h, Or.inl ⟨rfl, rfl⟩⟩
  · exact ⟨rfl, h, Or.inl ⟨rfl, rfl⟩⟩
theorem asg_o {all : List (Nat × Sp)} : ∀ (ops : List O) (s : Cn), Inv all s → (asg s ops).1.map (·.o) = ops
  | [], _, _ => rfl
  | o :: r, s, h => by
    obtain ⟨h1, h2, _⟩ := one_spec (o := o) h
    simp only [asg, List.map_cons, h1, asg_o r _ h2]
structure AsgOK (all : List (Nat × Sp)) (s s' : Cn) (C : List Co) : Prop where
  inv : Inv all s'
  le : s.j ≤ s'.j
  jb : ∀ c ∈ C, ∀ j p, c.sp = some (j, p) → s.j ≤ j ∧ j < s'.j ∧ ∃ x, all[j]? = some (x, p)
  nd : (jx C).Nodup
  cov : ∀ i, s.j ≤ i → i < s'.j → ∃ c ∈ C, ∃ p x, c.sp = some (i, p) ∧ all[i]? = some (x, p)
theorem asg_ok {all : List (Nat × Sp)} : ∀ (ops : List O) (s : Cn), Inv all s → AsgOK all s (asg s ops).2 (asg s ops).1
  | [], s, h => ⟨h, Nat.le_refl _, fun c hc => by simp [asg] at hc, List.nodup_nil, fun i h1 h2 => by simp only [asg] at h2; omega⟩
  | o :: r, s, h => by
    obtain ⟨h1, h2, h3⟩ := one_spec (o := o) h
    have k := asg_ok r _ h2
    rcases h3 with ⟨e1, e2⟩ | ⟨c, p, e1, e2, e3⟩
    · refine ⟨k.inv, by have := k.le; simp only [asg]; omega, fun d hd j q hq => ?_, ?_, fun i hi1 hi2 => ?_⟩
      · simp only [asg, List.mem_cons] at hd
        rcases hd with rfl | hd
        · rw [e1] at hq; cases hq
        · have := k.jb d hd j q hq; exact ⟨by omega, this.2⟩
      · simp only [asg, jx, List.filterMap_cons, jC, e1, Option.map_none]; exact k.nd
      · obtain ⟨d, hd, g⟩ := k.cov i (by omega) hi2
        exact ⟨d, by simp only [asg]; exact List.mem_cons_of_mem _ hd, g⟩
    · refine ⟨k.inv, by have := k.le; simp only [asg]; omega, fun d hd j q hq => ?_, ?_, fun i hi1 hi2 => ?_⟩
      · simp only [asg, List.mem_cons] at hd
        rcases hd with rfl | hd
        · rw [e1] at hq
          simp only [Option.some.injEq, Prod.mk.injEq] at hq
          obtain ⟨rfl, rfl⟩ := hq
          exact ⟨Nat.le_refl _, by have := k.le; simp only [asg]; omega, c, e3⟩
        · have := k.jb d hd j q hq; exact ⟨by omega, this.2⟩
      · simp only [asg, jx, List.filterMap_cons, jC, e1, Option.map_some, List.nodup_cons]
        refine ⟨fun hm => ?_, k.nd⟩
        obtain ⟨d, hd, hj⟩ := List.mem_filterMap.1 hm
        unfold jC at hj
        cases hs : d.sp with
        | none => rw [hs] at hj; cases hj
        | some q =>
          rw [hs] at hj
          simp only [Option.map_some, Option.some.injEq] at hj
          have := k.jb d hd q.1 q.2 hs
          omega
      · by_cases hi : i = s.j
        · subst hi
          exact ⟨_, by simp only [asg]; exact List.mem_cons_self, p, c, e1, e3⟩
        · obtain ⟨d, hd, g⟩ := k.cov i (by omega) hi2
          exact ⟨d, by simp only [asg]; exact List.mem_cons_of_mem _ hd, g⟩

/-- Where a run is. -/
structure Rs where
  σ : Sl
  M : Mem
  i : Nat
  c : Cn
structure Ro where
  x : X
  s : Rs
  q : List (Ob × Ob)
abbrev Env := (Nat → Nat) × (Nat → U)
def xrg (P : Program) (S : Seal) (η : Env) (s : Rs) (ops : List O) : Option Ro :=
  match rn P S (mkL (asg s.c ops).1 s.i η.1 η.2) s.σ s.M with
  | some (σ', M', q) => some ⟨.nrm, ⟨σ', M', s.i + tot (asg s.c ops).1, (asg s.c ops).2⟩, q⟩
  | none => none
def xlp (f : Rs → Option Ro) : Nat → Rs → Option Ro
  | 0, _ => none
  | n + 1, s => match f s with
    | some ⟨.nrm, s1, q1⟩ => match xlp f n s1 with
      | some ⟨x, s2, q2⟩ => some ⟨x, s2, q1 ++ q2⟩
      | none => none
    | some r => some r
    | none => none
def xc (P : Program) (S : Seal) (η : Env) (fuel : Nat) : C → Rs → Option Ro
  | .skip, s => some ⟨.nrm, s, []⟩
  | .reg ops, s => xrg P S η s ops
  | .drw ops ds, s => if conf (asg s.c ops).1 ds then xrg P S η s ops else none
  | .seq a b, s => match xc P S η fuel a s with
    | some ⟨.nrm, s1, q1⟩ => match xc P S η fuel b s1 with
      | some ⟨x, s2, q2⟩ => some ⟨x, s2, q1 ++ q2⟩
      | none => none
    | some r => some r
    | none => none
  | .cond x a b, s => match ev s.σ x with
    | some (.bool true) => xc P S η fuel a s
    | some (.bool false) => xc P S η fuel b s
    | _ => none
  | .block id c, s => match xc P S η fuel c s with
    | some ⟨.ex i, s1, q⟩ => some ⟨if i = id then .nrm else .ex i, s1, q⟩
    | some r => some r
    | none => none
  | .loop c, s => xlp (xc P S η fuel c) fuel s
  | .ret, s => some ⟨.ret, s, []⟩
  | .exit i, s => some ⟨.ex i, s, []⟩
  | _, _ => none

/-! ### what a run depends on -/
structure Agb (all : List (Nat × Sp)) (i j : Nat) (η η0 : Env) : Prop where
  n : ∀ a, a < i → η.1 a = η0.1 a
  u : ∀ a, a < j → ∀ x p, all[a]? = some (x, p) → tr p.t (η.2 a) = tr p.t (η0.2 a)
theorem Agb.refl (all : List (Nat × Sp)) (i j : Nat) (η : Env) : Agb all i j η η := ⟨fun _ _ => rfl, fun _ _ _ _ _ => rfl⟩
theorem Agb.symm {all : List (Nat × Sp)} {i j : Nat} {η η0 : Env} (h : Agb all i j η η0) : Agb all i j η0 η := ⟨fun a ha => (h.n a ha).symm, fun a ha x p hp => (h.u a ha x p hp).symm⟩
theorem Agb.le {all : List (Nat × Sp)} {i j i' j' : Nat} {η η0 : Env} (h : Agb all i j η η0) (hi : i' ≤ i) (hj : j' ≤ j) : Agb all i' j' η η0 := ⟨fun a ha => h.n a (by omega), fun a ha => h.u a (by omega)⟩
theorem Agb.trans {all : List (Nat × Sp)} {i j : Nat} {η η0 η1 : Env} (h : Agb all i j η η0) (k : Agb all i j η0 η1) : Agb all i j η η1 := ⟨fun a ha => (h.n a ha).trans (k.n a ha), fun a ha x p hp => (h.u a ha x p hp).trans (k.u a ha x p hp)⟩
theorem lC_at {c : Co} {μ μ' : Nat → U} (h : ∀ j p, c.sp = some (j, p) → tr p.t (μ j) = tr p.t (μ' j)) : lC c μ = lC c μ' := by
  unfold lC
  cases hs : c.sp with
  | none => rfl
  | some q => obtain ⟨j, p⟩ := q; exact h j p hs
structure Nx (all : List (Nat × Sp)) (s s' : Rs) : Prop where
  i : s.i ≤ s'.i
  j : s.c.j ≤ s'.c.j
  nd : Nd s.M → Nd s'.M
  inv : Inv all s'.c
theorem Nx.trans {all : List (Nat × Sp)} {a b c : Rs} (h : Nx all a b) (k : Nx all b c) : Nx all a c := ⟨Nat.le_trans h.i k.i, Nat.le_trans h.j k.j, fun n => k.nd (h.nd n), k.inv⟩
section
variable {P : Program} {S : Seal} {fuel : Nat} {all : List (Nat × Sp)}
theorem xrg_loc {η η' : Env} {s : Rs} {ops : List O} {r : Ro} (hi : Inv all s.c) (h : xrg P S η s ops = some r) : Nx all s r.s ∧ (Agb all r.s.i r.s.c.j η η' → xrg P S η' s ops = some r) := by
  have k := asg_ok ops s.c hi
  unfold xrg at h
  split at h
  · rename_i σ' M' q hr
    obtain rfl := Option.some.inj h
    refine ⟨⟨Nat.le_add_right _ _, k.le, fun nd => rn_nd nd hr, k.inv⟩, fun ha => ?_⟩
    unfold xrg
    rw [← mkL_congr (asg s.c ops).1 s.i η.1 η'.1 η.2 η'.2 (fun j _ h2 => ha.n j h2) (fun c hc => lC_at fun j p hp => by
      obtain ⟨_, h2, x, hx⟩ := k.jb c hc j p hp
      exact ha.u j h2 x p hx), hr]
  · cases h
theorem xlp_loc {η η' : Env} {f : Env → Rs → Option Ro} (hf : ∀ s r, Inv all s.c → f η s = some r → Nx all s r.s ∧ (Agb all r.s.i r.s.c.j η η' → f η' s = some r)) : ∀ (n : Nat) (s : Rs) (r : Ro), Inv all s.c → xlp (f η) n s = some r → Nx all s r.s ∧ (Agb all r.s.i r.s.c.j η η' → xlp (f η') n s = some r)
  | 0, s, r, _, h => by simp [xlp] at h
  | n + 1, s, r, hi, h => by
    unfold xlp at h
    split at h
    · rename_i s1 q1 h1
      split at h
      · rename_i x s2 q2 h2
        obtain rfl := Option.some.inj h
        obtain ⟨a1, a3⟩ := hf _ _ hi h1
        obtain ⟨b1, b3⟩ := xlp_loc hf n _ _ a1.inv h2
        simp only at a1 a3 b1 b3
        refine ⟨a1.trans b1, fun ha => ?_⟩
        simp only at ha
        simp only [xlp, a3 (ha.le b1.i b1.j), b3 ha]
      · cases h
    · rename_i r1 hne h1
      obtain rfl := Option.some.inj h
      obtain ⟨a1, a3⟩ := hf _ _ hi h1
      refine ⟨a1, fun ha => ?_⟩
      have := a3 ha
      unfold xlp
      rw [this]
      split
      · rename_i heq
        obtain rfl := Option.some.inj heq
        exact absurd rfl (hne _ _)
      · rename_i heq; exact heq.symm
      · rename_i heq; cases heq
    · cases h
theorem xc_loc {η η' : Env} : ∀ (c : C) (s : Rs) (r : Ro), Inv all s.c → xc P S η fuel c s = some r → Nx all s r.s ∧ (Agb all r.s.i r.s.c.j η η' → xc P S η' fuel c s = some r)
  | .skip, s, r, hi, h => by simp only [xc, Option.some.injEq] at h; subst h; exact ⟨⟨Nat.le_refl _, Nat.le_refl _, id, hi⟩, fun _ => rfl⟩
  | .ret, s, r, hi, h => by simp only [xc, Option.some.injEq] at h; subst h; exact ⟨⟨Nat.le_refl _, Nat.le_refl _, id, hi⟩, fun _ => rfl⟩
  | .exit i, s, r, hi, h => by simp only [xc, Option.some.injEq] at h; subst h; exact ⟨⟨Nat.le_refl _, Nat.le_refl _, id, hi⟩, fun _ => rfl⟩
  | .bad, s, r, hi, h => by simp [xc] at h
  | .reg ops, s, r, hi, h => xrg_loc hi h
  | .drw ops ds, s, r, hi, h => by
    simp only [xc] at h ⊢
    split at h
    · rename_i hc; rw [if_pos hc]; exact xrg_loc hi h
    · cases h
  | .seq a b, s, r, hi, h => by
    simp only [xc] at h
    split at h
    · rename_i s1 q1 h1
      split at h
      · rename_i x s2 q2 h2
        obtain rfl := Option.some.inj h
        obtain ⟨a1, a3⟩ := xc_loc (η' := η') a _ _ hi h1
        obtain ⟨b1, b3⟩ := xc_loc (η' := η') b _ _ a1.inv h2
        simp only at a1 a3 b1 b3
        refine ⟨a1.trans b1, fun ha => ?_⟩
        simp only at ha
        simp only [xc, a3 (ha.le b1.i b1.j), b3 ha]
      · cases h
    · rename_i r1 hne h1
      obtain rfl := Option.some.inj h
      obtain ⟨a1, a3⟩ := xc_loc (η' := η') a _ _ hi h1
      refine ⟨a1, fun ha => ?_⟩
      have := a3 ha
      unfold xc
      rw [this]
      split
      · rename_i heq
        obtain rfl := Option.some.inj heq
        exact absurd rfl (hne _ _)
      · rename_i heq; exact heq.symm
      · rename_i heq; cases heq
    · cases h
  | .cond x a b, s, r, hi, h => by
    simp only [xc] at h ⊢
    split at h
    · exact xc_loc a _ _ hi h
    · exact xc_loc b _ _ hi h
    · cases h
  | .block id c, s, r, hi, h => by
    simp only [xc] at h
    split at h
    · rename_i i s1 q h1
      obtain rfl := Option.some.inj h
      obtain ⟨a1, a3⟩ := xc_loc (η' := η') c _ _ hi h1
      refine ⟨a1, fun ha => ?_⟩
      simp only [xc, a3 ha]
    · rename_i r1 hne h1
      obtain rfl := Option.some.inj h
      obtain ⟨a1, a3⟩ := xc_loc (η' := η') c _ _ hi h1
      refine ⟨a1, fun ha => ?_⟩
      have := a3 ha
      unfold xc
      rw [this]
      split
      · rename_i heq
        obtain rfl := Option.some.inj heq
        exact absurd rfl (hne _ _ _)
      · rename_i heq; exact heq.symm
      · rename_i heq; cases heq
    · cases h
  | .loop c, s, r, hi, h => by
    simp only [xc] at h ⊢
    exact xlp_loc (f := fun η => xc P S η fuel c) (fun s r hi => xc_loc c s r hi) fuel s r hi h
end
def Fact (all : List (Nat × Sp)) (j : Nat) (μ : Nat → U) : Prop := ∀ x p, all[j]? = some (x, p) → p.φ (tr p.t (μ j))
def FaB (all : List (Nat × Sp)) (j : Nat) (μ : Nat → U) : Prop := ∀ i, i < j → Fact all i μ
theorem FaB.agr {all : List (Nat × Sp)} {i j : Nat} {η η' : Env} (h : FaB all j η.2) (a : Agb all i j η' η) : FaB all j η'.2 := fun k hk x p hp => by
  rw [a.u k hk x p hp]; exact h k hk x p hp
def Coll (F : List Own) (all : List (Nat × Sp)) (f : Env → Option Ro) (i j : Nat) (η0 : Env) (S : Seal) : Qst := fun x σ' H' S' => ∃ η r, Agb all i j η η0 ∧ f η = some r ∧ r.x = x ∧ σ' = r.s.σ ∧ H' = ows r.s.M ++ F ∧ S = S' ∧ FaB all r.s.c.j η.2
def Tot (all : List (Nat × Sp)) (f : Env → Option Ro) (i j : Nat) (η0 : Env) : Prop := ∀ η, Agb all i j η η0 → ∃ r, f η = some r ∧ ∀ p ∈ r.q, p.1 = p.2
section
variable {P : Program} {N : Nat} {S : Seal} {F : List Own} {fuel : Nat} {all : List (Nat × Sp)}
def SpsOK (P : Program) (S : Seal) (all : List (Nat × Sp)) : Prop := ∀ x p, (x, p) ∈ all → SpOK P S p
theorem sps_of {s : Rs} {ops : List O} (hs : SpsOK P S all) (hi : Inv all s.c) : SPs P S (asg s.c ops).1 := fun c hc j p hp => by
  obtain ⟨_, _, x, hx⟩ := (asg_ok ops s.c hi).jb c hc j p hp
  exact hs x p (List.mem_of_getElem? hx)
def mixE (s : Rs) (η0 : Env) (ν : Nat → Nat) (μ : Nat → U) : Env := (fun a => if a < s.i then η0.1 a else ν a, fun a => if a < s.c.j then η0.2 a else μ a)
theorem mixE_agb {s : Rs} {η0 : Env} {ν : Nat → Nat} {μ : Nat → U} : Agb all s.i s.c.j (mixE s η0 ν μ) η0 := ⟨fun a ha => if_pos ha, fun a ha x p hp => by simp only [mixE]; rw [if_pos ha]⟩
theorem mixE_mkL {s : Rs} {ops : List O} {η0 : Env} {ν : Nat → Nat} {μ : Nat → U} (hi : Inv all s.c) : mkL (asg s.c ops).1 s.i ν μ = mkL (asg s.c ops).1 s.i (mixE s η0 ν μ).1 (mixE s η0 ν μ).2 :=
  mkL_congr _ _ _ _ _ _ (fun j hj _ => (if_neg (by omega)).symm) fun c hc => lC_at fun j p hp => by
    have := ((asg_ok ops s.c hi).jb c hc j p hp).1
    simp only [mixE]; rw [if_neg (by omega)]
theorem rg_v {s : Rs} {ops : List O} {η0 : Env} (hi : Inv all s.c) (ht : Tot all (fun η => xrg P S η s ops) s.i s.c.j η0) (ν : Nat → Nat) (μ : Nat → U) : Fin0 (rn P S (mkL (asg s.c ops).1 s.i ν μ) s.σ s.M) := by
  rw [mixE_mkL (η0 := η0) hi]
  obtain ⟨r, h1, h2⟩ := ht _ (mixE_agb (ν := ν) (μ := μ))
  simp only [xrg] at h1
  split at h1
  · rename_i σ' M' q hr
    obtain rfl := Option.some.inj h1
    exact ⟨_, hr, h2⟩
  · cases h1
theorem rg_k {s : Rs} {ops : List O} {η0 : Env} {ν : Nat → Nat} {μ : Nat → U} {σ' : Sl} {M' : Mem} {q : List (Ob × Ob)} (hi : Inv all s.c) (hf0 : FaB all s.c.j η0.2) (hr : rn P S (mkL (asg s.c ops).1 s.i ν μ) s.σ s.M = some (σ', M', q)) (hf : Fa (asg s.c ops).1 μ) :
    xrg P S (mixE s η0 ν μ) s ops = some ⟨.nrm, ⟨σ', M', s.i + tot (asg s.c ops).1, (asg s.c ops).2⟩, q⟩ ∧ FaB all (asg s.c ops).2.j (mixE s η0 ν μ).2 := by
  have k := asg_ok ops s.c hi
  refine ⟨?_, fun i hi2 x p hp => ?_⟩
  · unfold xrg
    rw [← mixE_mkL (η0 := η0) hi, hr]
  · by_cases h : i < s.c.j
    · have := hf0 i h x p hp
      simp only [mixE]; rw [if_pos h]; exact this
    · obtain ⟨c, hc, p', x', h1, h2⟩ := k.cov i (by omega) hi2
      rw [hp] at h2
      simp only [Option.some.injEq, Prod.mk.injEq] at h2
      obtain ⟨rfl, rfl⟩ := h2
      have := hf c hc
      unfold Φ lC at this
      rw [h1] at this
      simp only at this
      simp only [mixE]; rw [if_neg h]; exact this
theorem wl_mono {c : C} {n : Nat} {σ : Sl} {H : List Own} {Q Q' : Qst} (h : WL P N c n σ H S Q) (hq : ∀ x σ' H' S', Q x σ' H' S' → Q' x σ' H' S') : WL P N c n σ H S Q' :=
  fun code hc ts w R a1 a2 a3 hR => h code hc ts w R a1 a2 a3 fun x σ' H' S' ts' w' q => hR x σ' H' S' ts' w' (hq _ _ _ _ q)
theorem xlp_ok {c : C} (ih : ∀ (s : Rs) (η0 : Env), Inv all s.c → FaB all s.c.j η0.2 → Nd s.M → Tot all (fun η => xc P S η fuel c s) s.i s.c.j η0 → W P N c s.σ (ows s.M ++ F) S (Coll F all (fun η => xc P S η fuel c s) s.i s.c.j η0 S)) :
    ∀ (n : Nat) (s : Rs) (η0 : Env), Inv all s.c → FaB all s.c.j η0.2 → Nd s.M → Tot all (fun η => xlp (xc P S η fuel c) n s) s.i s.c.j η0 → WL P N c n s.σ (ows s.M ++ F) S (Coll F all (fun η => xlp (xc P S η fuel c) n s) s.i s.c.j η0 S)
  | 0, s, η0, _, _, nd, ht => by obtain ⟨r, h, _⟩ := ht η0 (Agb.refl _ _ _ _); simp [xlp] at h
  | n + 1, s, η0, hi, hf0, nd, ht => by
    refine wl_step ?_
    refine w_mono (ih s η0 hi hf0 nd fun η ha => ?_) ?_
    · obtain ⟨r, h, hq⟩ := ht η ha
      simp only [xlp] at h
      split at h
      · rename_i s1 q1 h1
        split at h
        · obtain rfl := Option.some.inj h
          exact ⟨_, h1, fun p hp => hq p (by simp [hp])⟩
        · cases h
      · rename_i r1 _ h1
        obtain rfl := Option.some.inj h
        exact ⟨_, h1, hq⟩
      · cases h
    · rintro x σ' H' S' ⟨η, r, ha, hr, rfl, rfl, rfl, rfl, hf⟩
      obtain ⟨a1, _⟩ := xc_loc (η' := η) c s r hi hr
      obtain ⟨x, s1, q1⟩ := r
      simp only at a1 hf
      cases x with
      | nrm =>
        have loc : ∀ η', Agb all s1.i s1.c.j η' η → xc P S η' fuel c s = some ⟨.nrm, s1, q1⟩ := fun η' hη => (xc_loc (η' := η') c s _ hi hr).2 hη.symm
        refine wl_mono (xlp_ok ih n s1 η a1.inv hf (a1.nd nd) fun η' hη => ?_) ?_
        · obtain ⟨r2, h2, hq2⟩ := ht η' ((hη.le a1.i a1.j).trans ha)
          simp only [xlp, loc η' hη] at h2
          split at h2
          · rename_i x s2 q2 h3
            obtain rfl := Option.some.inj h2
            exact ⟨_, h3, fun p hp => hq2 p (by simp [hp])⟩
          · cases h2
        · rintro x σ' H' S' ⟨η', r2, hη, h2, rfl, rfl, rfl, rfl, hf2⟩
          obtain ⟨x, s2, q2⟩ := r2
          refine ⟨η', ⟨x, s2, q1 ++ q2⟩, (hη.le a1.i a1.j).trans ha, ?_, rfl, rfl, rfl, rfl, hf2⟩
          simp only [xlp, loc η' hη, h2]
      | ret => exact ⟨η, ⟨.ret, s1, q1⟩, ha, by simp only [xlp, hr], rfl, rfl, rfl, rfl, hf⟩
      | ex i => exact ⟨η, ⟨.ex i, s1, q1⟩, ha, by simp only [xlp, hr], rfl, rfl, rfl, rfl, hf⟩
theorem xc_ok (hmix : P.follows .mixedOrders = true) (hs : SpsOK P S all) : ∀ (c : C) (s : Rs) (η0 : Env), Inv all s.c → FaB all s.c.j η0.2 → Nd s.M → Tot all (fun η => xc P S η fuel c s) s.i s.c.j η0 → W P N c s.σ (ows s.M ++ F) S (Coll F all (fun η => xc P S η fuel c s) s.i s.c.j η0 S)
  | .skip, s, η0, hi, hf, nd, ht => w_skip ⟨η0, _, Agb.refl _ _ _ _, rfl, rfl, rfl, rfl, rfl, hf⟩
  | .ret, s, η0, hi, hf, nd, ht => w_ret ⟨η0, _, Agb.refl _ _ _ _, rfl, rfl, rfl, rfl, rfl, hf⟩
  | .exit i, s, η0, hi, hf, nd, ht => w_exit ⟨η0, _, Agb.refl _ _ _ _, rfl, rfl, rfl, rfl, rfl, hf⟩
  | .bad, s, η0, hi, hf, nd, ht => by obtain ⟨r, h, _⟩ := ht η0 (Agb.refl _ _ _ _); simp [xc] at h
  | .reg ops, s, η0, hi, hf0, nd, ht => by
    refine w_reg fun all' => ?_
    have h := t_seq (P := P) (N := N) (all := all') (r := []) (Q := Coll F all (fun η => xc P S η fuel (.reg ops) s) s.i s.c.j η0 S .nrm) (F := F) (asg s.c ops).1 s.i (List.Perm.refl _) nd (sps_of hs hi) (asg_ok ops s.c hi).nd (rg_v hi ht) fun ν μ σ' M' q hr hf => ?_
    · rw [asg_o ops s.c hi, List.append_nil] at h; exact h
    · obtain ⟨h1, h2⟩ := rg_k hi hf0 hr hf
      exact t_nil ⟨mixE s η0 ν μ, _, mixE_agb, h1, rfl, rfl, rfl, rfl, h2⟩
  | .drw ops ds, s, η0, hi, hf0, nd, ht => by
    have hc : conf (asg s.c ops).1 ds = true := by
      obtain ⟨r, h, _⟩ := ht η0 (Agb.refl _ _ _ _)
      simp only [xc] at h
      split at h
      · rename_i hc; exact hc
      · cases h
    have ht' : Tot all (fun η => xrg P S η s ops) s.i s.c.j η0 := fun η ha => by
      obtain ⟨r, h, hq⟩ := ht η ha
      simp only [xc, if_pos hc] at h
      exact ⟨r, h, hq⟩
    have h := w_anyN (N := N) (Q := Coll F all (fun η => xc P S η fuel (.drw ops ds) s) s.i s.c.j η0 S) (F := F) hmix hc (List.Perm.refl _) nd (sps_of hs hi) (asg_ok ops s.c hi).nd (rg_v hi ht') fun ν μ σ' M' q hr hf => ?_
    · rw [asg_o ops s.c hi] at h; exact h
    · obtain ⟨h1, h2⟩ := rg_k hi hf0 hr hf
      exact ⟨mixE s η0 ν μ, _, mixE_agb, by simp only [xc, if_pos hc]; exact h1, rfl, rfl, rfl, rfl, h2⟩
  | .seq a b, s, η0, hi, hf0, nd, ht => by
    refine w_seq ?_
    refine w_mono (xc_ok hmix hs a s η0 hi hf0 nd fun η ha => ?_) ?_
    · obtain ⟨r, h, hq⟩ := ht η ha
      simp only [xc] at h
      split at h
      · rename_i s1 q1 h1
        split at h
        · obtain rfl := Option.some.inj h
          exact ⟨_, h1, fun p hp => hq p (by simp [hp])⟩
        · cases h
      · rename_i r1 _ h1
        obtain rfl := Option.some.inj h
        exact ⟨_, h1, hq⟩
      · cases h
    · rintro x σ' H' S' ⟨η, r, ha, hr, rfl, rfl, rfl, rfl, hf⟩
      obtain ⟨a1, _⟩ := xc_loc (η' := η) a s r hi hr
      obtain ⟨x, s1, q1⟩ := r
      simp only at a1 hf
      cases x with
      | nrm =>
        have loc : ∀ η', Agb all s1.i s1.c.j η' η → xc P S η' fuel a s = some ⟨.nrm, s1, q1⟩ := fun η' hη => (xc_loc (η' := η') a s _ hi hr).2 hη.symm
        refine w_mono (xc_ok hmix hs b s1 η a1.inv hf (a1.nd nd) fun η' hη => ?_) ?_
        · obtain ⟨r2, h2, hq2⟩ := ht η' ((hη.le a1.i a1.j).trans ha)
          simp only [xc, loc η' hη] at h2
          split at h2
          · rename_i x s2 q2 h3
            obtain rfl := Option.some.inj h2
            exact ⟨_, h3, fun p hp => hq2 p (by simp [hp])⟩
          · cases h2
        · rintro x σ' H' S' ⟨η', r2, hη, h2, rfl, rfl, rfl, rfl, hf2⟩
          obtain ⟨x, s2, q2⟩ := r2
          refine ⟨η', ⟨x, s2, q1 ++ q2⟩, (hη.le a1.i a1.j).trans ha, ?_, rfl, rfl, rfl, rfl, hf2⟩
          simp only [xc, loc η' hη, h2]
      | ret => exact ⟨η, ⟨.ret, s1, q1⟩, ha, by simp only [xc, hr], rfl, rfl, rfl, rfl, hf⟩
      | ex i => exact ⟨η, ⟨.ex i, s1, q1⟩, ha, by simp only [xc, hr], rfl, rfl, rfl, rfl, hf⟩
  | .cond x a b, s, η0, hi, hf0, nd, ht => by
    obtain ⟨r0, h0, _⟩ := ht η0 (Agb.refl _ _ _ _)
    simp only [xc] at h0
    split at h0
    · rename_i hx
      refine w_cond hx (fun _ => ?_) (fun e => by cases e)
      refine w_mono (xc_ok hmix hs a s η0 hi hf0 nd fun η ha => ?_) ?_
      · obtain ⟨r, h, hq⟩ := ht η ha; simp only [xc, hx] at h; exact ⟨r, h, hq⟩
      · rintro x' σ' H' S' ⟨η, r, ha, hr, g⟩; exact ⟨η, r, ha, by simp only [xc, hx]; exact hr, g⟩
    · rename_i hx
      refine w_cond hx (fun e => by cases e) (fun _ => ?_)
      refine w_mono (xc_ok hmix hs b s η0 hi hf0 nd fun η ha => ?_) ?_
      · obtain ⟨r, h, hq⟩ := ht η ha; simp only [xc, hx] at h; exact ⟨r, h, hq⟩
      · rintro x' σ' H' S' ⟨η, r, ha, hr, g⟩; exact ⟨η, r, ha, by simp only [xc, hx]; exact hr, g⟩
    · cases h0
  | .block id c, s, η0, hi, hf0, nd, ht => by
    refine w_block ?_
    refine w_mono (xc_ok hmix hs c s η0 hi hf0 nd fun η ha => ?_) ?_
    · obtain ⟨r, h, hq⟩ := ht η ha
      simp only [xc] at h
      split at h
      · rename_i i s1 q h1
        obtain rfl := Option.some.inj h
        exact ⟨_, h1, hq⟩
      · rename_i r1 _ h1
        obtain rfl := Option.some.inj h
        exact ⟨_, h1, hq⟩
      · cases h
    · rintro x σ' H' S' ⟨η, r, ha, hr, rfl, rfl, rfl, rfl, hf⟩
      obtain ⟨x, s1, q1⟩ := r
      cases x with
      | nrm => exact ⟨η, ⟨.nrm, s1, q1⟩, ha, by simp only [xc, hr], rfl, rfl, rfl, rfl, hf⟩
      | ret => exact ⟨η, ⟨.ret, s1, q1⟩, ha, by simp only [xc, hr], rfl, rfl, rfl, rfl, hf⟩
      | ex i =>
        simp only [blk]
        split
        · rename_i e; exact ⟨η, ⟨.nrm, s1, q1⟩, ha, by simp only [xc, hr, if_pos e], rfl, rfl, rfl, rfl, hf⟩
        · rename_i e; exact ⟨η, ⟨.ex i, s1, q1⟩, ha, by simp only [xc, hr, if_neg e], rfl, rfl, rfl, rfl, hf⟩
  | .loop c, s, η0, hi, hf0, nd, ht => w_lun fuel (xlp_ok (fun s η0 hi hf0 nd ht => xc_ok hmix hs c s η0 hi hf0 nd ht) fuel s η0 hi hf0 nd ht)
end
end Go.Proofs.YtobjaddicodiaaaDoorE
end

section
/- Runs, as a walk uses them. Own work. -/
namespace Go.Proofs.YtobjaddicodiaaaDoorE
open Go Go.RowKit
set_option linter.unusedVariables false
set_option linter.unusedSimpArgs false

/-- What is told of an operation, and that it is so. -/
structure SpP (P : Program) (S : Seal) where
  p : Sp
  hf : Bool := false
  ok : SpOK P S p
abbrev Tl (P : Program) (S : Seal) := List (Nat × SpP P S)
def Tl.sp {P : Program} {S : Seal} : Tl P S → List (Nat × Sp)
  | [] => []
  | (c, p) :: r => (c, p.p) :: Tl.sp r
theorem Tl.ok {P : Program} {S : Seal} : ∀ (l : Tl P S), SpsOK P S l.sp
  | [], x, p, h => by cases h
  | (c, q) :: r, x, p, h => by
    simp only [Tl.sp, List.mem_cons, Prod.mk.injEq] at h
    rcases h with ⟨_, rfl⟩ | h
    · exact q.ok
    · exact Tl.ok r x p h
def AllC : Nat → (List Nat → Prop) → Prop
  | 0, f => f []
  | k + 1, f => ∀ b, AllC k fun l => f (b :: l)
theorem allC : ∀ {k : Nat} {f : List Nat → Prop}, AllC k f → ∀ ns : List Nat, ns.length = k → f ns
  | 0, f, h, ns, hl => by rw [List.eq_nil_of_length_eq_zero hl]; exact h
  | k + 1, f, h, [], hl => by simp at hl
  | k + 1, f, h, b :: ns, hl => allC (f := fun l => f (b :: l)) (h b) ns (by simpa using hl)
def nsf (ns : List Nat) : Nat → Nat := fun j => ns.getD j 0
def AllM {P : Program} {S : Seal} : Tl P S → (List L5 → Prop) → Prop
  | [], f => f []
  | (_, p) :: r, f => AllT p.p.t fun l => AllM r fun ls => f (l :: ls)
def musf (ls : List L5) : Nat → U := fun j => un (ls.getD j ⟨[], [], [], [], []⟩)
theorem allM {P : Program} {S : Seal} : ∀ {l : Tl P S} {f : List L5 → Prop}, AllM l f → ∀ μ : Nat → U, ∃ ls : List L5, f ls ∧ ∀ (j x : Nat) (p : Sp), l.sp[j]? = some (x, p) → ls[j]? = some (tr p.t (μ j))
  | [], f, h, μ => ⟨[], h, fun j x p hp => by simp [Tl.sp] at hp⟩
  | (c, q) :: r, f, h, μ => by
    have h1 := allT h (μ 0)
    obtain ⟨ls, h2, h3⟩ := allM h1 fun j => μ (j + 1)
    refine ⟨_ :: ls, h2, fun j x p hp => ?_⟩
    cases j with
    | zero =>
      simp only [Tl.sp, List.getElem?_cons_zero, Option.some.injEq, Prod.mk.injEq] at hp ⊢
      rw [hp.2]
    | succ j => simp only [Tl.sp, List.getElem?_cons_succ] at hp ⊢; exact h3 j x p hp
theorem tr_un : ∀ (t : List Nat) (u : U), tr t (un (tr t u)) = tr t u
  | [], u => rfl
  | 0 :: t, u => by
    have h := tr_un t ⟨fun j => u.n (j + 1), u.o, u.a, u.c, u.f⟩
    simp only [tr, un] at h ⊢
    have e : ∀ b : Nat, (fun j => (b :: (tr t ⟨fun j => u.n (j + 1), u.o, u.a, u.c, u.f⟩).n).getD (j + 1) 0) = fun j => (tr t ⟨fun j => u.n (j + 1), u.o, u.a, u.c, u.f⟩).n.getD j 0 := fun b => by funext j; simp [List.getD_eq_getElem?_getD]
    simp only [List.getD_cons_zero, e, h]
  | 1 :: t, u => by
    have h := tr_un t ⟨u.n, fun j => u.o (j + 1), u.a, u.c, u.f⟩
    simp only [tr, un] at h ⊢
    have e : ∀ b : Option Nat, (fun j => (b :: (tr t ⟨u.n, fun j => u.o (j + 1), u.a, u.c, u.f⟩).o).getD (j + 1) none) = fun j => (tr t ⟨u.n, fun j => u.o (j + 1), u.a, u.c, u.f⟩).o.getD j none := fun b => by funext j; simp [List.getD_eq_getElem?_getD]
    simp only [List.getD_cons_zero, e, h]
  | 2 :: t, u => by
    have h := tr_un t ⟨u.n, u.o, fun j => u.a (j + 1), u.c, u.f⟩
    simp only [tr, un] at h ⊢
    have e : ∀ b : Option Addr, (fun j => (b :: (tr t ⟨u.n, u.o, fun j => u.a (j + 1), u.c, u.f⟩).a).getD (j + 1) none) = fun j => (tr t ⟨u.n, u.o, fun j => u.a (j + 1), u.c, u.f⟩).a.getD j none := fun b => by funext j; simp [List.getD_eq_getElem?_getD]
    simp only [List.getD_cons_zero, e, h]
  | 3 :: t, u => by
    have h := tr_un t ⟨u.n, u.o, u.a, fun j => u.c (j + 1), u.f⟩
    simp only [tr, un] at h ⊢
    have e : ∀ b : List Value, (fun j => (b :: (tr t ⟨u.n, u.o, u.a, fun j => u.c (j + 1), u.f⟩).c).getD (j + 1) []) = fun j => (tr t ⟨u.n, u.o, u.a, fun j => u.c (j + 1), u.f⟩).c.getD j [] := fun b => by funext j; simp [List.getD_eq_getElem?_getD]
    simp only [List.getD_cons_zero, e, h]
  | (_ + 4) :: t, u => by
    have h := tr_un t ⟨u.n, u.o, u.a, u.c, fun j => u.f (j + 1)⟩
    simp only [tr, un] at h ⊢
    have e : ∀ b : List Own, (fun j => (b :: (tr t ⟨u.n, u.o, u.a, u.c, fun j => u.f (j + 1)⟩).f).getD (j + 1) []) = fun j => (tr t ⟨u.n, u.o, u.a, u.c, fun j => u.f (j + 1)⟩).f.getD j [] := fun b => by funext j; simp [List.getD_eq_getElem?_getD]
    simp only [List.getD_cons_zero, e, h]
/-- The facts that come with names. -/
def FcL {P : Program} {S : Seal} : Tl P S → List L5 → Prop → Prop
  | (_, p) :: r, l :: ls, G => if p.hf = true then (p.p.φ l → FcL r ls G) else FcL r ls G
  | _, _, G => G
theorem FcL.get {P : Program} {S : Seal} : ∀ {l : Tl P S} {ls : List L5} {G : Prop} {μ : Nat → U}, FcL l ls G → (∀ (j x : Nat) (p : Sp), l.sp[j]? = some (x, p) → ls[j]? = some (tr p.t (μ j))) → (∀ (j x : Nat) (p : Sp), l.sp[j]? = some (x, p) → p.φ (tr p.t (μ j))) → G
  | [], _, _, _, h, _, _ => h
  | _ :: _, [], _, _, h, h2, _ => h
  | (c, q) :: r, l :: ls, G, μ, h, h2, h3 => by
    have e := h2 0 c q.p rfl
    simp only [List.getElem?_cons_zero, Option.some.injEq] at e
    have hr : FcL r ls G → G := fun h => FcL.get (μ := fun j => μ (j + 1)) h (fun j x p hp => by have := h2 (j + 1) x p (by simpa [Tl.sp] using hp); simpa using this) fun j x p hp => h3 (j + 1) x p (by simpa [Tl.sp] using hp)
    simp only [FcL] at h
    split at h
    · refine hr (h ?_)
      rw [e]; exact h3 0 c q.p rfl
    · exact hr h
theorem FcL.imp {P : Program} {S : Seal} : ∀ {l : Tl P S} {ls : List L5} {G G' : Prop}, (G → G') → FcL l ls G → FcL l ls G'
  | [], _, _, _, i, h => i h
  | _ :: _, [], _, _, i, h => i h
  | (c, q) :: r, l :: ls, G, G', i, h => by
    simp only [FcL] at h ⊢
    split
    · rename_i hq; rw [if_pos hq] at h; exact fun hφ => FcL.imp i (h hφ)
    · rename_i hq; rw [if_neg hq] at h; exact FcL.imp i h

/-- The first statements of a row of them. -/
def xs (P : Program) (S : Seal) (η : Env) (fuel : Nat) : Nat → C → Rs → Option Ro
  | 0, _, s => some ⟨.nrm, s, []⟩
  | n + 1, .seq a b, s => match xc P S η fuel a s with
    | some ⟨.nrm, s1, q1⟩ => match xs P S η fuel n b s1 with
      | some ⟨x, s2, q2⟩ => some ⟨x, s2, q1 ++ q2⟩
      | none => none
    | _ => none
  | _, _, _ => none
def dropS : Nat → C → C
  | 0, c => c
  | n + 1, .seq _ b => dropS n b
  | _, _ => .bad
/-- It comes to this. -/
inductive Z (F : List Own) (k m : Nat) (K : Sl → List Own → Prop) : Option Ro → Prop
  | mk (x : Ro) (h1 : x.s.i = k) (h0 : x.s.c.j = m) (h2 : ∀ p ∈ x.q, p.1 = p.2) (h3 : K x.s.σ (ows x.s.M ++ F)) : Z F k m K (some x)
def owsL (ls fl : List Nat) (M : Mem) : List Own := ows (rmM fl (rmM ls M)) ++ ows ((rmM ls M).filter fun p => !!fl.contains p.1)
def zr (L ls fl : List Nat) : Option Ro → Option (Sl × List Own × Nat × Nat × List Ob)
  | some x => some (keep L x.s.σ, owsL ls fl x.s.M, x.s.i, x.s.c.j, x.q.map Prod.fst)
  | none => none
theorem ows_rm (M : Mem) (ls : List Nat) : (ows M).Perm (ows (rmM ls M) ++ ows (M.filter fun p => !!ls.contains p.1)) := by
  rw [← ows_app]
  refine ows_perm ?_
  exact (List.filter_append_perm (fun p : Nat × List Own => !ls.contains p.1) M).symm
theorem vs_owsL {S : Seal} (M : Mem) (ls fl : List Nat) : VS (ows M) S (owsL ls fl M) S :=
  ((VS.perm (ows_rm M ls)).trans VS.drop).trans (VS.perm (ows_rm (rmM ls M) fl))
def er : Option Ro → List Ob
  | some x => x.q.map Prod.snd
  | none => []
theorem eq_pairs : ∀ {q : List (Ob × Ob)}, q.map Prod.fst = q.map Prod.snd → ∀ p ∈ q, p.1 = p.2
  | [], _, p, hp => by cases hp
  | a :: q, h, p, hp => by
    simp only [List.map_cons, List.cons.injEq] at h
    rcases List.mem_cons.1 hp with rfl | hp
    · exact h.1
    · exact eq_pairs h.2 p hp
/-- Where a run begins. -/
def st0 (σ : Sl) (M : Mem) (hs : List Nat) (sp : List (Nat × Sp)) : Rs := ⟨σ, M, 0, ⟨0, M.length, 0, hs, sp⟩⟩
theorem inv0 {σ : Sl} {M : Mem} {hs : List Nat} {sp : List (Nat × Sp)} : Inv sp (st0 σ M hs sp).c := rfl
theorem fab0 {σ : Sl} {M : Mem} {hs : List Nat} {sp : List (Nat × Sp)} {η : Env} : FaB sp (st0 σ M hs sp).c.j η.2 := fun i hi => absurd hi (Nat.not_lt_zero i)
section
variable {P : Program} {N : Nat} {all : Array Oper} {σ : Sl} {H F : List Own} {S : Seal} {Q : Pst} {Qs : Qst} {c : C} {fuel : Nat}
theorem z_of {L ls fl : List Nat} {r : Option Ro} {σ' : Sl} {H' : List Own} {k m : Nat} {K : Sl → List Own → Prop} (e : zr L ls fl r = some (σ', H', k, m, er r))
    (hK : ∀ σ1 H1, (∀ t v, gt σ' t = some v → gt σ1 t = some v) → VS H1 S (H' ++ F) S → K σ1 H1) : Z F k m K r := by
  have fr : ∀ {A B : List Own}, VS A S B S → VS (A ++ F) S (B ++ F) S := fun v w h => by
    obtain ⟨h1, h2⟩ := v w h.drop
    exact h.frame h1 h2
  cases r with
  | none => simp [zr] at e
  | some x =>
    simp only [zr, er, Option.some.injEq, Prod.mk.injEq] at e
    obtain ⟨h1, h2, h3, h0, h4⟩ := e
    exact .mk x h3 h0 (eq_pairs h4) (hK _ _ (keep_sub L h1) (by rw [← h2]; exact fr (vs_owsL x.s.M ls fl)))
theorem xs_loc {al : List (Nat × Sp)} {η η' : Env} : ∀ (n : Nat) (c : C) (s : Rs) (r : Ro), Inv al s.c → xs P S η fuel n c s = some r → Nx al s r.s ∧ (Agb al r.s.i r.s.c.j η η' → xs P S η' fuel n c s = some r)
  | 0, c, s, r, hi, h => by simp only [xs, Option.some.injEq] at h; subst h; exact ⟨⟨Nat.le_refl _, Nat.le_refl _, id, hi⟩, fun _ => by simp [xs]⟩
  | n + 1, c, s, r, hi, h => by
    cases c <;> simp only [xs] at h <;> (try cases h; done)
    case seq a b =>
      split at h
      · rename_i s1 q1 h1
        split at h
        · rename_i x s2 q2 h2
          obtain rfl := Option.some.inj h
          obtain ⟨a1, a3⟩ := xc_loc (η' := η') a _ _ hi h1
          obtain ⟨b1, b3⟩ := xs_loc (η' := η') n b _ _ a1.inv h2
          simp only at a1 a3 b1 b3
          refine ⟨a1.trans b1, fun ha => ?_⟩
          simp only at ha
          simp only [xs, a3 (ha.le b1.i b1.j), b3 ha]
        · cases h
      · cases h
theorem xs_ok {al : List (Nat × Sp)} (hmix : P.follows .mixedOrders = true) (hs : SpsOK P S al) : ∀ (n : Nat) (c : C) (s : Rs) (η0 : Env), Inv al s.c → FaB al s.c.j η0.2 → Nd s.M → Tot al (fun η => xs P S η fuel n c s) s.i s.c.j η0 →
    (∀ η r, Agb al s.i s.c.j η η0 → xs P S η fuel n c s = some r → FaB al r.s.c.j η.2 → W P N (dropS n c) r.s.σ (ows r.s.M ++ F) S Qs) → W P N c s.σ (ows s.M ++ F) S Qs
  | 0, c, s, η0, hi, hf, nd, ht, h => by simpa [dropS] using h η0 ⟨.nrm, s, []⟩ (Agb.refl _ _ _ _) (by simp [xs]) hf
  | n + 1, c, s, η0, hi, hf0, nd, ht, h => by
    cases c
    case seq a b =>
      refine w_seq ?_
      refine w_mono (xc_ok (F := F) (fuel := fuel) hmix hs a s η0 hi hf0 nd fun η ha => ?_) ?_
      · obtain ⟨r, h, hq⟩ := ht η ha
        simp only [xs] at h
        split at h
        · rename_i s1 q1 h1
          split at h
          · obtain rfl := Option.some.inj h
            exact ⟨_, h1, fun p hp => hq p (by simp [hp])⟩
          · cases h
        · cases h
      · rintro x σ' H' S' ⟨η, r, ha, hr, rfl, rfl, rfl, rfl, hf⟩
        obtain ⟨a1, _⟩ := xc_loc (η' := η) a s r hi hr
        obtain ⟨x, s1, q1⟩ := r
        simp only at a1 hf
        cases x with
        | nrm =>
          have loc : ∀ η', Agb al s1.i s1.c.j η' η → xc P S η' fuel a s = some ⟨.nrm, s1, q1⟩ := fun η' hη => (xc_loc (η' := η') a s _ hi hr).2 hη.symm
          refine xs_ok hmix hs n b s1 η a1.inv hf (a1.nd nd) (fun η' hη => ?_) fun η' r2 hη h2 hf2 => ?_
          · obtain ⟨r2, h2, hq2⟩ := ht η' ((hη.le a1.i a1.j).trans ha)
            simp only [xs, loc η' hη] at h2
            split at h2
            · rename_i x s2 q2 h3
              obtain rfl := Option.some.inj h2
              exact ⟨_, h3, fun p hp => hq2 p (by simp [hp])⟩
            · cases h2
          · obtain ⟨x, s2, q2⟩ := r2
            refine h η' ⟨x, s2, q1 ++ q2⟩ ((hη.le a1.i a1.j).trans ha) ?_ hf2
            simp only [xs, loc η' hη, h2]
        | ret => obtain ⟨r, h, _⟩ := ht η ha; simp only [xs, hr] at h; cases h
        | ex i => obtain ⟨r, h, _⟩ := ht η ha; simp only [xs, hr] at h; cases h
    all_goals (obtain ⟨r, h, _⟩ := ht η0 (Agb.refl _ _ _ _); simp [xs] at h)
theorem sp_len {l : Tl P S} : l.sp.length = l.length := by
  induction l with
  | nil => rfl
  | cons a r ih => obtain ⟨c, p⟩ := a; simp [Tl.sp, ih]
theorem tot_of {k : Nat} {l : Tl P S} {f : Env → Option Ro} {K : Sl → List Own → Prop} (hl : ∀ η η' r, f η = some r → Agb l.sp r.s.i r.s.c.j η η' → f η' = some r)
    (h : AllC k fun ns => AllM l fun ls => Z F k l.length (fun σ' H' => FcL l ls (K σ' H')) (f (nsf ns, musf ls))) (η : Env) : ∃ r, f η = some r ∧ (∀ p ∈ r.q, p.1 = p.2) ∧ (FaB l.sp r.s.c.j η.2 → K r.s.σ (ows r.s.M ++ F)) := by
  have h3 := allC h ((List.range k).map η.1) (by simp)
  obtain ⟨ls, h4, h5⟩ := allM h3 η.2
  cases hr : f (nsf ((List.range k).map η.1), musf ls) with
  | none => rw [hr] at h4; cases h4
  | some r =>
    rw [hr] at h4
    cases h4 with
    | mk _ g1 g0 g2 g3 =>
      refine ⟨r, hl _ _ _ hr ⟨fun a ha => ?_, fun a ha x p hp => ?_⟩, g2, fun hf => ?_⟩
      · rw [g1] at ha
        simp [nsf, List.getD_eq_getElem?_getD, ha]
      · have := h5 a x p hp
        simp only [musf, List.getD_eq_getElem?_getD, this, Option.getD_some]
        exact tr_un p.t (η.2 a)
      · refine g3.get h5 fun j x p hp => hf j ?_ x p hp
        rw [g0, ← sp_len]
        exact (List.getElem?_eq_some_iff.1 hp).1
/-- The first statements at once. -/
theorem wxG (hmix : P.follows .mixedOrders = true) (n : Nat) (hs : List Nat) (k : Nat) (l : Tl P S) (M : Mem) (nd : Nd M) (h : AllC k fun ns => AllM l fun ls => Z F k l.length (fun σ' H' => FcL l ls (W P N (dropS n c) σ' H' S Qs)) (xs P S (nsf ns, musf ls) 64 n c (st0 σ M hs l.sp))) : W P N c σ (ows M ++ F) S Qs := by
  have ht := tot_of (f := fun η => xs P S η 64 n c (st0 σ M hs l.sp)) (fun η η' r hr ha => (xs_loc (η' := η') n c _ r inv0 hr).2 ha) h
  exact xs_ok (N := N) (Qs := Qs) (F := F) (fuel := 64) (S := S) hmix l.ok n c (st0 σ M hs l.sp) (ν0, μ0) inv0 fab0 nd (fun η _ => by obtain ⟨r, a, b, _⟩ := ht η; exact ⟨r, a, b⟩) fun η r _ hr hf => by
    obtain ⟨r', a, _, b⟩ := ht η
    obtain rfl := Option.some.inj (hr.symm.trans a)
    exact b hf
theorem t_slots {ops : List O} {σ' : Sl} (hs : ∀ t v, gt σ' t = some v → gt σ t = some v) (h : T P N all ops σ' H S Q) : T P N all ops σ H S Q :=
  fun l hL ts w R hσ hN hH hR => h l hL ts w R (fun t v g => hσ t v (hs t v g)) hN hH hR
/-- The next operations at once. -/
theorem txG (n : Nat) (hs : List Nat) (k : Nat) (l : Tl P S) (M : Mem) (nd : Nd M) {ops : List O} (h : AllC k fun ns => AllM l fun ls => Z F k l.length (fun σ' H' => FcL l ls (T P N all (ops.drop n) σ' H' S Q)) (xrg P S (nsf ns, musf ls) (st0 σ M hs l.sp) (ops.take n))) : T P N all ops σ (ows M ++ F) S Q := by
  have ht := tot_of (f := fun η => xrg P S η (st0 σ M hs l.sp) (ops.take n)) (fun η η' r hr ha => (xrg_loc (η' := η') inv0 hr).2 ha) h
  have hv : Tot l.sp (fun η => xrg P S η (st0 σ M hs l.sp) (ops.take n)) 0 0 (ν0, μ0) := fun η _ => by obtain ⟨r, a, b, _⟩ := ht η; exact ⟨r, a, b⟩
  have := t_seq (P := P) (N := N) (all := all) (r := ops.drop n) (Q := Q) (S := S) (F := F) (asg (st0 σ M hs l.sp).c (ops.take n)).1 0 (List.Perm.refl _) nd (sps_of (s := st0 σ M hs l.sp) l.ok inv0) (asg_ok (ops.take n) (st0 σ M hs l.sp).c inv0).nd
    (rg_v (s := st0 σ M hs l.sp) inv0 hv) fun ν μ σ' M' q hr hf => by
      obtain ⟨h1, h2⟩ := rg_k (s := st0 σ M hs l.sp) (η0 := (ν0, μ0)) inv0 fab0 hr hf
      obtain ⟨r', a, _, b⟩ := ht (mixE (st0 σ M hs l.sp) (ν0, μ0) ν μ)
      have := h1.symm.trans a
      obtain rfl := Option.some.inj this
      exact b h2
  rw [asg_o (ops.take n) (st0 σ M hs l.sp).c inv0, List.take_append_drop] at this
  exact this
/-- The last statement at once: it ends in the way x. -/
def xo : X → Option Ro → Option Ro
  | .nrm, some ⟨.nrm, s, q⟩ => some ⟨.nrm, s, q⟩
  | .ex i, some ⟨.ex j, s, q⟩ => if i = j then some ⟨.ex j, s, q⟩ else none
  | _, _ => none
theorem xo_some {x : X} {r : Option Ro} {r' : Ro} (h : xo x r = some r') : r = some r' ∧ r'.x = x := by
  unfold xo at h
  split at h
  · obtain rfl := Option.some.inj h; exact ⟨rfl, rfl⟩
  · split at h
    · rename_i e; obtain rfl := Option.some.inj h; exact ⟨rfl, by rw [e]⟩
    · cases h
  · cases h
def Cl (Q : Qst) : Qst := fun x σ H S => ∃ σ' H' S', (∀ t v, gt σ' t = some v → gt σ t = some v) ∧ VS H S H' S' ∧ Q x σ' H' S'
theorem w_cl (h : W P N c σ H S (Cl Qs)) : W P N c σ H S Qs := by
  intro code hc ts w R hσ hN hH hR
  refine h code hc ts w R hσ hN hH ?_
  rintro x σ' H' S' ts' w' ⟨σ2, H2, S2, h1, h2, h3⟩ a1 a2 a3 st
  obtain ⟨b1, b2⟩ := h2 w' a3
  exact hR x σ2 H2 S2 ts' w' h3 (fun t v g => a1 t v (h1 t v g)) a2 b1 (st.trans b2)
theorem wqG (hmix : P.follows .mixedOrders = true) (hs : List Nat) (k : Nat) (x : X) (l : Tl P S) (M : Mem) (nd : Nd M) (h : AllC k fun ns => AllM l fun ls => Z F k l.length (fun σ' H' => FcL l ls (Cl Qs x σ' H' S)) (xo x (xc P S (nsf ns, musf ls) 64 c (st0 σ M hs l.sp)))) : W P N c σ (ows M ++ F) S Qs := by
  have h' := tot_of (f := fun η => xo x (xc P S η 64 c (st0 σ M hs l.sp))) (fun η η' r hr ha => by
    obtain ⟨h1, h2⟩ := xo_some hr
    have := (xc_loc (η' := η') c _ r inv0 h1).2 ha
    rw [this]; rw [h1] at hr; exact hr) h
  have := xc_ok (N := N) (F := F) (fuel := 64) (S := S) hmix l.ok c (st0 σ M hs l.sp) (ν0, μ0) inv0 fab0 nd (fun η _ => by obtain ⟨r, a, b, _⟩ := h' η; exact ⟨r, (xo_some a).1, b⟩)
  refine w_cl (w_mono this ?_)
  rintro x' σ' H' S' ⟨η, r, _, hr, rfl, rfl, rfl, rfl, hf⟩
  obtain ⟨r', a, _, d⟩ := h' η
  obtain ⟨a1, a2⟩ := xo_some a
  obtain rfl := Option.some.inj (hr.symm.trans a1)
  rw [a2]
  exact d hf

/-! ### without forests, with forests -/
theorem m_lab (H : List Own) : H = ows (lab2 H []) ++ [] := by rw [ows_lab2]; simp
theorem wx (hmix : P.follows .mixedOrders = true) (n : Nat) (hs : List Nat) (k : Nat) (l : Tl P S) (h : AllC k fun ns => AllM l fun ls => Z [] k l.length (fun σ' H' => FcL l ls (W P N (dropS n c) σ' H' S Qs)) (xs P S (nsf ns, musf ls) 64 n c (st0 σ (lab2 H []) hs l.sp))) : W P N c σ H S Qs := by
  have := wxG hmix n hs k l (lab2 H []) (nd_lab2 _ _) h
  rwa [← m_lab] at this
theorem tx (n : Nat) (hs : List Nat) (k : Nat) (l : Tl P S) {ops : List O} (h : AllC k fun ns => AllM l fun ls => Z [] k l.length (fun σ' H' => FcL l ls (T P N all (ops.drop n) σ' H' S Q)) (xrg P S (nsf ns, musf ls) (st0 σ (lab2 H []) hs l.sp) (ops.take n))) : T P N all ops σ H S Q := by
  have := txG (N := N) (all := all) n hs k l (lab2 H []) (nd_lab2 _ _) h
  rwa [← m_lab] at this
theorem wq (hmix : P.follows .mixedOrders = true) (hs : List Nat) (k : Nat) (x : X) (l : Tl P S) (h : AllC k fun ns => AllM l fun ls => Z [] k l.length (fun σ' H' => FcL l ls (Cl Qs x σ' H' S)) (xo x (xc P S (nsf ns, musf ls) 64 c (st0 σ (lab2 H []) hs l.sp)))) : W P N c σ H S Qs := by
  have := wqG (N := N) hmix hs k x l (lab2 H []) (nd_lab2 _ _) h
  rwa [← m_lab] at this
theorem m_labF (H : List Own) (Fs : List (List Own)) : H ++ Fs.flatten = ows (lab2 H Fs) ++ [] := by rw [ows_lab2]; simp
theorem wxF (hmix : P.follows .mixedOrders = true) (Fs : List (List Own)) (n : Nat) (hs : List Nat) (k : Nat) (l : Tl P S) (h : AllC k fun ns => AllM l fun ls => Z [] k l.length (fun σ' H' => FcL l ls (W P N (dropS n c) σ' H' S Qs)) (xs P S (nsf ns, musf ls) 64 n c (st0 σ (lab2 H Fs) hs l.sp))) : W P N c σ (H ++ Fs.flatten) S Qs := by
  have := wxG hmix n hs k l (lab2 H Fs) (nd_lab2 _ _) h
  rwa [← m_labF] at this
theorem txF (Fs : List (List Own)) (n : Nat) (hs : List Nat) (k : Nat) (l : Tl P S) {ops : List O} (h : AllC k fun ns => AllM l fun ls => Z [] k l.length (fun σ' H' => FcL l ls (T P N all (ops.drop n) σ' H' S Q)) (xrg P S (nsf ns, musf ls) (st0 σ (lab2 H Fs) hs l.sp) (ops.take n))) : T P N all ops σ (H ++ Fs.flatten) S Q := by
  have := txG (N := N) (all := all) n hs k l (lab2 H Fs) (nd_lab2 _ _) h
  rwa [← m_labF] at this
theorem wqF (hmix : P.follows .mixedOrders = true) (Fs : List (List Own)) (hs : List Nat) (k : Nat) (x : X) (l : Tl P S) (h : AllC k fun ns => AllM l fun ls => Z [] k l.length (fun σ' H' => FcL l ls (Cl Qs x σ' H' S)) (xo x (xc P S (nsf ns, musf ls) 64 c (st0 σ (lab2 H Fs) hs l.sp)))) : W P N c σ (H ++ Fs.flatten) S Qs := by
  have := wqG (N := N) hmix hs k x l (lab2 H Fs) (nd_lab2 _ _) h
  rwa [← m_labF] at this
theorem zz {l : Tl P S} {ls : List L5} {K : Sl → List Own → Prop} {L ls0 fl : List Nat} {r : Option Ro} {σ' : Sl} {H' : List Own} {k m : Nat} (hm : ∀ σ1 H1, (∀ t v, gt σ' t = some v → gt σ1 t = some v) → VS H1 S H' S → K σ' H' → K σ1 H1) (h : FcL l ls (K σ' H')) (e : zr L ls0 fl r = some (σ', H', k, m, er r)) : Z [] k m (fun σ1 H1 => FcL l ls (K σ1 H1)) r :=
  z_of (S := S) e fun σ1 H1 a b => h.imp (hm σ1 H1 a (by rw [List.append_nil] at b; exact b))
theorem zW (σ' : Sl) (is fl : List Nat) (H' : List Own) {l : Tl P S} {ls : List L5} {r : Option Ro} {k m : Nat} (h : FcL l ls (W P N c σ' H' S Qs)) (e : zr (σ'.map (·.1)) is fl r = some (σ', H', k, m, er r) := by kernel_rfl) : Z [] k m (fun σ1 H1 => FcL l ls (W P N c σ1 H1 S Qs)) r :=
  zz (fun _ _ a b h => w_vs b (w_slots a h)) h e
theorem zW1 (σ' : Sl) (H' : List Own) {l : Tl P S} {ls : List L5} {r : Option Ro} {k m : Nat} (h : FcL l ls (W P N c σ' H' S Qs)) (e : zr (σ'.map (·.1)) [] [] r = some (σ', H', k, m, er r) := by kernel_rfl) : Z [] k m (fun σ1 H1 => FcL l ls (W P N c σ1 H1 S Qs)) r :=
  zz (fun _ _ a b h => w_vs b (w_slots a h)) h e
theorem zT (σ' : Sl) (is fl : List Nat) (H' : List Own) {l : Tl P S} {ls : List L5} {r : Option Ro} {k m : Nat} {ops : List O} (h : FcL l ls (T P N all ops σ' H' S Q)) (e : zr (σ'.map (·.1)) is fl r = some (σ', H', k, m, er r) := by kernel_rfl) : Z [] k m (fun σ1 H1 => FcL l ls (T P N all ops σ1 H1 S Q)) r :=
  zz (fun _ _ a b h => t_vs b (t_slots a h)) h e
theorem zQ (σ' : Sl) (is fl : List Nat) (H' : List Own) {l : Tl P S} {ls : List L5} {r : Option Ro} {k m : Nat} {x : X} (h : FcL l ls (Qs x σ' H' S)) (e : zr (σ'.map (·.1)) is fl r = some (σ', H', k, m, er r) := by kernel_rfl) : Z [] k m (fun σ1 H1 => FcL l ls (Cl Qs x σ1 H1 S)) r :=
  z_of (S := S) e fun σ1 H1 a b => h.imp fun h => ⟨_, _, _, a, by rw [List.append_nil] at b; exact b, h⟩
theorem zQ1 (σ' : Sl) (H' : List Own) {l : Tl P S} {ls : List L5} {r : Option Ro} {k m : Nat} {x : X} (h : FcL l ls (Qs x σ' H' S)) (e : zr (σ'.map (·.1)) [] [] r = some (σ', H', k, m, er r) := by kernel_rfl) : Z [] k m (fun σ1 H1 => FcL l ls (Cl Qs x σ1 H1 S)) r :=
  z_of (S := S) e fun σ1 H1 a b => h.imp fun h => ⟨_, _, _, a, by rw [List.append_nil] at b; exact b, h⟩
end
end Go.Proofs.YtobjaddicodiaaaDoorE
end

section
/- What is told of operations: calls, places in lists, loads, known tests. Own work. -/
namespace Go.Proofs.YtobjaddicodiaaaDoorE
open Go Go.RowKit
set_option linter.unusedVariables false
set_option linter.unusedSimpArgs false

/-- An operation over known values. -/
def kc : K → List Value → K
  | .mv _, [a] => .mv (.const a)
  | .ld n _, [a] => .ld n (.const a)
  | .pad k _, [a] => .pad k (.const a)
  | .fld n o _, [a] => .fld n o (.const a)
  | .nck _, [a] => .nck (.const a)
  | .un o _, [a] => .un o (.const a)
  | .cnv k _, [a] => .cnv k (.const a)
  | .xt i _, [a] => .xt i (.const a)
  | .lns _, [a] => .lns (.const a)
  | .mki t _, [a] => .mki t (.const a)
  | .tas t o z _, [a] => .tas t o z (.const a)
  | .s2a n _, [a] => .s2a n (.const a)
  | .pk _ _ _, [a, b, c] => .pk (.const a) (.const b) (.const c)
  | .ixs z _ _, [a, b] => .ixs z (.const a) (.const b)
  | .ixa z m _ _, [a, b] => .ixa z m (.const a) (.const b)
  | .ixv n z m _ _, [a, b] => .ixv n z m (.const a) (.const b)
  | .bin o _ _, [a, b] => .bin o (.const a) (.const b)
  | .beq n _ _, [a, b] => .beq n (.const a) (.const b)
  | _, _ => .fail
theorem evs1 {σ : Sl} {x : Operand} {vs : List Value} (h : evs σ [x] = some vs) : ∃ a, vs = [a] ∧ ev σ x = some a := by
  simp only [evs] at h
  cases hx : ev σ x with
  | none => rw [hx] at h; cases h
  | some a => rw [hx] at h; exact ⟨a, (Option.some.inj h).symm, rfl⟩
theorem evs2 {σ : Sl} {x y : Operand} {vs : List Value} (h : evs σ [x, y] = some vs) : ∃ a b, vs = [a, b] ∧ ev σ x = some a ∧ ev σ y = some b := by
  simp only [evs] at h
  cases hx : ev σ x with
  | none => rw [hx] at h; cases h
  | some a =>
    cases hy : ev σ y with
    | none => rw [hx, hy] at h; cases h
    | some b => rw [hx, hy] at h; exact ⟨a, b, (Option.some.inj h).symm, rfl, rfl⟩
theorem evs3 {σ : Sl} {x y z : Operand} {vs : List Value} (h : evs σ [x, y, z] = some vs) : ∃ a b c, vs = [a, b, c] ∧ ev σ x = some a ∧ ev σ y = some b ∧ ev σ z = some c := by
  simp only [evs] at h
  cases hx : ev σ x with
  | none => rw [hx] at h; cases h
  | some a =>
    cases hy : ev σ y with
    | none => rw [hx, hy] at h; cases h
    | some b =>
      cases hz : ev σ z with
      | none => rw [hx, hy, hz] at h; cases h
      | some c => rw [hx, hy, hz] at h; exact ⟨a, b, c, (Option.some.inj h).symm, rfl, rfl, rfl⟩
theorem evc (a : Value) : ev [] (.const a) = some a := rfl
theorem qv_kc {H : List Own} {S : Seal} {σ : Sl} {k : K} {vs : List Value} {v : Value} (he : evs σ (kO k) = some vs) (h : qv H S [] (kc k vs) = some v) : qv H S σ k = some v := by
  cases k
  case pk c x y =>
    obtain ⟨a, b, d, rfl, h1, h2, h3⟩ := evs3 he
    simp only [kc, qv, evc] at h ⊢
    rw [h1, h2, h3]; exact h
  case bld => simp only [kO, kc] at h; simp [qv] at h
  case mm => simp only [kO, kc] at h; simp [qv] at h
  case mkf => simp only [kO, kc] at h; simp [qv] at h
  case sls => simp only [kO, kc] at h; simp [qv] at h
  case sla => simp only [kO, kc] at h; simp [qv] at h
  case lnc => simp only [kO, kc] at h; simp [qv] at h
  case ld n x =>
    obtain ⟨a, rfl, h1⟩ := evs1 he
    cases n <;> simp only [kc, qv, evc] at h ⊢ <;> rw [h1] <;> exact h
  case fld n o x =>
    obtain ⟨a, rfl, h1⟩ := evs1 he
    cases n <;> simp only [kc, qv, evc] at h ⊢ <;> rw [h1] <;> exact h
  case ixv n z m x i =>
    obtain ⟨a, b, rfl, h1, h2⟩ := evs2 he
    cases n <;> simp only [kc, qv, evc] at h ⊢ <;> rw [h1, h2] <;> exact h
  case ixs z x i =>
    obtain ⟨a, b, rfl, h1, h2⟩ := evs2 he
    simp only [kc, qv, evc] at h ⊢
    rw [h1, h2]; exact h
  case ixa z m x i =>
    obtain ⟨a, b, rfl, h1, h2⟩ := evs2 he
    simp only [kc, qv, evc] at h ⊢
    rw [h1, h2]; exact h
  case bin o x y =>
    obtain ⟨a, b, rfl, h1, h2⟩ := evs2 he
    simp only [kc, qv, evc] at h ⊢
    rw [h1, h2]; exact h
  case beq o x y =>
    obtain ⟨a, b, rfl, h1, h2⟩ := evs2 he
    simp only [kc, qv, evc] at h ⊢
    rw [h1, h2]; exact h
  all_goals first
    | (obtain ⟨a, rfl, h1⟩ := evs1 he
       simp only [kc, qv, evc] at h ⊢
       rw [h1]; exact h)
    | (exfalso
       simp only [kc] at h
       (try split at h) <;> simp [qv] at h)
    | (simp only [kc, qv] at h; cases h)
theorem kc_nf {k : K} {vs : List Value} {H : List Own} {S : Seal} {v : Value} (h : qv H S [] (kc k vs) = some v) : k ≠ .fail := fun e => by
  subst e
  simp [kc, qv] at h

def sg (H : List Own) : List (List Own) := H.map fun e => [e]
section
variable {P : Program} {S : Seal}
theorem sp_val {k : K} {vs : List Value} {R : List (List Own)} {v : Value} (hf : k ≠ .fail) (h : ∀ (N : Nat) (all : Array Oper) (r : List O) (Q : Pst) (σ : Sl) (F : List Own) (d : Option Nat) (g : Option (Nat × Bool)), wtd σ g = some true → evs σ (kO k) = some vs → T P N all r (pt σ d v) (R.flatten ++ F) S Q → T P N all (⟨d, k, g⟩ :: r) σ (R.flatten ++ F) S Q) :
    SpOK P S ⟨k, vs, [], R, [], fun _ => v, fun _ => [], 0, fun _ => True⟩ :=
  ⟨hf, fun N all r Q σ F d g hw he hK => h N all r Q σ F d g hw he (hK (un ⟨[], [], [], [], []⟩) trivial)⟩
/-- A value that is quietly known. -/
def spQ (k : K) (vs : List Value) {v : Value} (h : qv [] S [] (kc k vs) = some v) : SpP P S :=
  ⟨⟨k, vs, [], [], [], fun _ => v, fun _ => [], 0, fun _ => True⟩, false, sp_val (kc_nf h) fun N all r Q σ F d g hw he hT => t_v (dv_quiet hw (qv_kc he h)) hT⟩
/-- The same, out of owned blocks. -/
def spH (k : K) (vs : List Value) (R : List (List Own)) {v : Value} (h : ∀ F w, HOK (R.flatten ++ F) S w → qv (R.flatten ++ F) S [] (kc k vs) = some v) (hf : k ≠ .fail) : SpP P S :=
  ⟨⟨k, vs, [], R, [], fun _ => v, fun _ => [], 0, fun _ => True⟩, false, sp_val hf fun N all r Q σ F d g hw he hT => t_v (.quietH hw hf fun w hw => qv_kc he (h F w hw)) hT⟩
/-- A cell, some cells. -/
def spL1 (x : Operand) (b o : Nat) (R : List (List Own)) {v : Value} (h : ∀ F, R1 (R.flatten ++ F) S b o v) : SpP P S :=
  ⟨⟨.ld none x, [.pointer (some ⟨b, o, none⟩)], [], R, [], fun _ => v, fun _ => [], 0, fun _ => True⟩, false, sp_val (by intro e; cases e) fun N all r Q σ F d g hw he hT => by
    obtain ⟨a, e1, e2⟩ := evs1 he
    simp only [List.cons.injEq, and_true] at e1
    subst e1
    exact t_v (.ld1 hw rfl e2 (h F)) hT⟩
def spLn (x : Operand) (b o n : Nat) (R : List (List Own)) {vs : List Value} (h : ∀ F, Rn (R.flatten ++ F) S b o n vs) : SpP P S :=
  ⟨⟨.ld (some n) x, [.pointer (some ⟨b, o, none⟩)], [], R, [], fun _ => .agg vs.toArray, fun _ => [], 0, fun _ => True⟩, false, sp_val (by intro e; cases e) fun N all r Q σ F d g hw he hT => by
    obtain ⟨a, e1, e2⟩ := evs1 he
    simp only [List.cons.injEq, and_true] at e1
    subst e1
    exact t_v (.ldn hw rfl e2 (h F)) hT⟩
/-- A value that is known otherwise. -/
def spTo (p : SpP P S) {a : Value} (b : Value) (h : a = b) (hv : p.p.v = fun _ => a := by rfl) : SpP P S :=
  ⟨{ p.p with v := fun _ => b }, p.hf, by
    obtain ⟨⟨k, vs, A, R, t, v, B, nb, φ⟩, hf, ok⟩ := p
    simp only at hv
    subst hv h
    exact ok⟩
/-- Two things held against each other. -/
def spE (neg : Bool) (t : TypeId) (x y : Operand) {a b : Value} {r v : Bool} (hr : eqV P t x y a b = some r) (hv : (r != neg) = v) : SpP P S :=
  ⟨⟨.eqt neg t x y, [a, b], [], [], [], fun _ => .bool v, fun _ => [], 0, fun _ => True⟩, false, sp_val (by intro e; cases e) fun N all r Q σ F d g hw he hT => by
    obtain ⟨u, w, e1, e2, e3⟩ := evs2 he
    simp only [List.cons.injEq, and_true] at e1
    obtain ⟨rfl, rfl⟩ := e1
    exact t_v (.eqt hw rfl e2 e3 hr hv) hT⟩
def spEp (neg : Bool) (t : TypeId) (x y : Operand) {a b : Value} {r v : Bool} (hr : EqP P S t a b r) (hv : (r != neg) = v) : SpP P S :=
  ⟨⟨.eqt neg t x y, [a, b], [], [], [], fun _ => .bool v, fun _ => [], 0, fun _ => True⟩, false, sp_val (by intro e; cases e) fun N all r Q σ F d g hw he hT => by
    obtain ⟨u, w, e1, e2, e3⟩ := evs2 he
    simp only [List.cons.injEq, and_true] at e1
    obtain ⟨rfl, rfl⟩ := e1
    exact t_v (.eqp hw rfl e2 e3 hr hv) hT⟩
theorem sp_call {f : FuncId} {xs : List Operand} {vs : List Value} {A R : List (List Own)} {t : List Nat} {v : L5 → Value} {B : L5 → List (List Own)} {nb : Nat} {φ : L5 → Prop} {A0 : List Own} (hA : A0 = A.flatten ++ R.flatten)
    (hc : Cal P f vs A0 S fun v' H' S' => ∃ u : U, v' = v (tr t u) ∧ H' = (B (tr t u)).flatten ++ R.flatten ∧ S' = S ∧ φ (tr t u)) : SpOK P S ⟨.call f xs, vs, A, R, t, v, B, nb, φ⟩ := by
  subst hA
  refine ⟨(by intro e; cases e), fun N all r Q σ F d g hw he hK => ?_⟩
  refine t_call (H1 := A.flatten ++ R.flatten) (F := F) rfl hw he (by rw [List.append_assoc]) hc ?_
  rintro _ _ _ ⟨u, rfl, rfl, rfl, hφ⟩
  rw [List.append_assoc]
  exact hK u hφ
theorem sp_clo {x : Operand} {f : FuncId} {caps : Array Value} {xs : List Operand} {vs : List Value} {A R : List (List Own)} {t : List Nat} {v : L5 → Value} {B : L5 → List (List Own)} {nb : Nat} {φ : L5 → Prop} {A0 : List Own} (hok : okF P f = true) (hA : A0 = A.flatten ++ R.flatten)
    (hc : Cal P f (vs ++ caps.toList) A0 S fun v' H' S' => ∃ u : U, v' = v (tr t u) ∧ H' = (B (tr t u)).flatten ++ R.flatten ∧ S' = S ∧ φ (tr t u)) : SpOK P S ⟨.clo x xs, .func (.func f) #[] caps :: vs, A, R, t, v, B, nb, φ⟩ := by
  subst hA
  refine ⟨(by intro e; cases e), fun N all r Q σ F d g hw he hK => ?_⟩
  simp only [kO, evs] at he
  split at he
  · rename_i a as h1 h2
    simp only [Option.some.injEq, List.cons.injEq] at he
    obtain ⟨rfl, rfl⟩ := he
    refine t_clo (H1 := A.flatten ++ R.flatten) (F := F) rfl hw h1 hok h2 (by rw [List.append_assoc]) hc ?_
    rintro _ _ _ ⟨u, rfl, rfl, rfl, hφ⟩
    rw [List.append_assoc]
    exact hK u hφ
  · cases he
def u0 : U := ⟨fun _ => 0, fun _ => none, fun _ => none, fun _ => [], fun _ => []⟩
/-- A call that only computes. -/
def spP (f : FuncId) (xs : List Operand) {vs : List Value} {v : Value} (hc : Cal P f vs [] S fun v' H' S' => v' = v ∧ H' = [] ∧ S' = S) : SpP P S :=
  ⟨⟨.call f xs, vs, [], [], [], fun _ => v, fun _ => [], 0, fun _ => True⟩, false, sp_call (A := []) (R := []) (A0 := []) rfl (hc.mono fun _ _ _ ⟨a, b, c⟩ => ⟨u0, a, b, c, trivial⟩)⟩
/-- A call that only reads. -/
def spR (f : FuncId) (xs : List Operand) (R : List (List Own)) {vs : List Value} {v : Value} {A : List Own} (hc : Cal P f vs A S fun v' H' S' => v' = v ∧ H' = A ∧ S' = S) (hA : A = R.flatten) : SpP P S :=
  ⟨⟨.call f xs, vs, [], R, [], fun _ => v, fun _ => [], 0, fun _ => True⟩, false, sp_call (A := []) (R := R) (A0 := A) hA (hc.mono fun _ _ _ ⟨a, b, c⟩ => ⟨u0, a, by rw [b, hA]; rfl, c, trivial⟩)⟩
/-- A call that changes, makes. -/
def spC (f : FuncId) (xs : List Operand) (A R : List (List Own)) (t : List Nat) (nb : Nat) (v : L5 → Value) (B : L5 → List (List Own)) {vs : List Value} {A0 : List Own} (hA : A0 = A.flatten ++ R.flatten)
    (hc : Cal P f vs A0 S fun v' H' S' => ∃ u : U, v' = v (tr t u) ∧ H' = (B (tr t u)).flatten ++ R.flatten ∧ S' = S) : SpP P S :=
  ⟨⟨.call f xs, vs, A, R, t, v, B, nb, fun _ => True⟩, false, sp_call hA (hc.mono fun _ _ _ ⟨u, a, b, c⟩ => ⟨u, a, b, c, trivial⟩)⟩
def spCf (f : FuncId) (xs : List Operand) (A R : List (List Own)) (t : List Nat) (nb : Nat) (v : L5 → Value) (B : L5 → List (List Own)) (φ : L5 → Prop) {vs : List Value} {A0 : List Own} (hA : A0 = A.flatten ++ R.flatten)
    (hc : Cal P f vs A0 S fun v' H' S' => ∃ u : U, v' = v (tr t u) ∧ H' = (B (tr t u)).flatten ++ R.flatten ∧ S' = S ∧ φ (tr t u)) : SpP P S :=
  ⟨⟨.call f xs, vs, A, R, t, v, B, nb, φ⟩, true, sp_call hA hc⟩
/-- The same of closures. -/
def spPc (f : FuncId) (caps : Array Value) (x : Operand) (xs : List Operand) {vs : List Value} {v : Value} (hok : okF P f = true) (hc : Cal P f (vs ++ caps.toList) [] S fun v' H' S' => v' = v ∧ H' = [] ∧ S' = S) : SpP P S :=
  ⟨⟨.clo x xs, .func (.func f) #[] caps :: vs, [], [], [], fun _ => v, fun _ => [], 0, fun _ => True⟩, false, sp_clo (A := []) (R := []) (A0 := []) hok rfl (hc.mono fun _ _ _ ⟨a, b, c⟩ => ⟨u0, a, b, c, trivial⟩)⟩
def spRc (f : FuncId) (caps : Array Value) (x : Operand) (xs : List Operand) (vs : List Value) (R : List (List Own)) {v : Value} {A : List Own} (hok : okF P f = true) (hc : Cal P f (vs ++ caps.toList) A S fun v' H' S' => v' = v ∧ H' = A ∧ S' = S) (hA : A = R.flatten) : SpP P S :=
  ⟨⟨.clo x xs, .func (.func f) #[] caps :: vs, [], R, [], fun _ => v, fun _ => [], 0, fun _ => True⟩, false, sp_clo (A := []) (R := R) (A0 := A) hok hA (hc.mono fun _ _ _ ⟨a, b, c⟩ => ⟨u0, a, by rw [b, hA]; rfl, c, trivial⟩)⟩
def spCc (f : FuncId) (caps : Array Value) (x : Operand) (xs : List Operand) (vs : List Value) (A R : List (List Own)) (t : List Nat) (nb : Nat) (v : L5 → Value) (B : L5 → List (List Own)) {A0 : List Own} (hok : okF P f = true) (hA : A0 = A.flatten ++ R.flatten)
    (hc : Cal P f (vs ++ caps.toList) A0 S fun v' H' S' => ∃ u : U, v' = v (tr t u) ∧ H' = (B (tr t u)).flatten ++ R.flatten ∧ S' = S) : SpP P S :=
  ⟨⟨.clo x xs, .func (.func f) #[] caps :: vs, A, R, t, v, B, nb, fun _ => True⟩, false, sp_clo hok hA (hc.mono fun _ _ _ ⟨u, a, b, c⟩ => ⟨u, a, b, c, trivial⟩)⟩
/-- Names. -/
def L5.N (l : L5) (i : Nat) : Nat := l.n.getD i 0
def L5.O (l : L5) (i : Nat) : Option Nat := l.o.getD i none
def L5.A (l : L5) (i : Nat) : Option Addr := l.a.getD i none
def L5.C (l : L5) (i : Nat) : List Value := l.c.getD i []
def L5.F (l : L5) (i : Nat) : List Own := l.f.getD i []
end
end Go.Proofs.YtobjaddicodiaaaDoorE
end

section
/- States that are not written out. Own work. -/
namespace Go.Proofs.YtobjaddicodiaaaDoorE
open Go Go.RowKit
set_option linter.unusedVariables false
def reM (M : Mem) : Mem := labF 0 (M.map Prod.snd)
theorem ows_snd : ∀ (M : Mem), (M.map Prod.snd).flatten = ows M
  | [] => rfl
  | p :: r => by simp only [List.map_cons, List.flatten_cons, ows, ows_snd r]
theorem m_re (M : Mem) : ows M = ows (reM M) ++ [] := by unfold reM; rw [ows_labF, ows_snd, List.append_nil]
def σR : Option Ro → Sl
  | some x => x.s.σ
  | none => []
def mR (ls : List Nat) : Option Ro → Mem
  | some x => rmM ls x.s.M
  | none => []
def zl : Option Ro → Option (Nat × Nat × List Ob)
  | some x => some (x.s.i, x.s.c.j, x.q.map Prod.fst)
  | none => none
section
variable {P : Program} {N : Nat} {all : Array Oper} {σ : Sl} {H F : List Own} {S : Seal} {Q : Pst} {Qs : Qst} {c : C} {M : Mem}
theorem zl_of {ls : List Nat} {r : Option Ro} {k m : Nat} {K : Sl → List Own → Prop} (e : zl r = some (k, m, er r))
    (hK : ∀ σ1 H1, (∀ t v, gt (σR r) t = some v → gt σ1 t = some v) → VS H1 S (ows (mR ls r)) S → K σ1 H1) : Z [] k m K r := by
  cases r with
  | none => simp [zl] at e
  | some x =>
    simp only [zl, er, Option.some.injEq, Prod.mk.injEq] at e
    obtain ⟨h3, h0, h4⟩ := e
    exact .mk x h3 h0 (eq_pairs h4) (hK _ _ (fun _ _ h => h) (by rw [List.append_nil]; exact (VS.perm (ows_rm x.s.M ls)).trans VS.drop))
theorem zWL (is : List Nat) {l : Tl P S} {ls : List L5} {r : Option Ro} {k m : Nat} (h : FcL l ls (W P N c (σR r) (ows (mR is r)) S Qs)) (e : zl r = some (k, m, er r) := by kernel_rfl) : Z [] k m (fun σ1 H1 => FcL l ls (W P N c σ1 H1 S Qs)) r :=
  zl_of (S := S) e fun σ1 H1 a b => h.imp fun h => w_vs b (w_slots a h)
theorem zTL (is : List Nat) {l : Tl P S} {ls : List L5} {r : Option Ro} {k m : Nat} {ops : List O} (h : FcL l ls (T P N all ops (σR r) (ows (mR is r)) S Q)) (e : zl r = some (k, m, er r) := by kernel_rfl) : Z [] k m (fun σ1 H1 => FcL l ls (T P N all ops σ1 H1 S Q)) r :=
  zl_of (S := S) e fun σ1 H1 a b => h.imp fun h => t_vs b (t_slots a h)
theorem zQL (is : List Nat) {l : Tl P S} {ls : List L5} {r : Option Ro} {k m : Nat} {x : X} (h : FcL l ls (Qs x (σR r) (ows (mR is r)) S)) (e : zl r = some (k, m, er r) := by kernel_rfl) : Z [] k m (fun σ1 H1 => FcL l ls (Cl Qs x σ1 H1 S)) r :=
  zl_of (S := S) e fun σ1 H1 a b => h.imp fun h => ⟨_, _, _, a, b, h⟩
theorem wxM (hmix : P.follows .mixedOrders = true) (n : Nat) (hs : List Nat) (k : Nat) (l : Tl P S) (h : AllC k fun ns => AllM l fun ls => Z [] k l.length (fun σ' H' => FcL l ls (W P N (dropS n c) σ' H' S Qs)) (xs P S (nsf ns, musf ls) 64 n c (st0 σ (reM M) hs l.sp))) : W P N c σ (ows M) S Qs := by
  have := wxG hmix n hs k l (reM M) (nd_labF _ _) h
  rwa [← m_re] at this
theorem txM (n : Nat) (hs : List Nat) (k : Nat) (l : Tl P S) {ops : List O} (h : AllC k fun ns => AllM l fun ls => Z [] k l.length (fun σ' H' => FcL l ls (T P N all (ops.drop n) σ' H' S Q)) (xrg P S (nsf ns, musf ls) (st0 σ (reM M) hs l.sp) (ops.take n))) : T P N all ops σ (ows M) S Q := by
  have := txG (N := N) (all := all) n hs k l (reM M) (nd_labF _ _) h
  rwa [← m_re] at this
theorem wqM (hmix : P.follows .mixedOrders = true) (hs : List Nat) (k : Nat) (x : X) (l : Tl P S) (h : AllC k fun ns => AllM l fun ls => Z [] k l.length (fun σ' H' => FcL l ls (Cl Qs x σ' H' S)) (xo x (xc P S (nsf ns, musf ls) 64 c (st0 σ (reM M) hs l.sp)))) : W P N c σ (ows M) S Qs := by
  have := wqG (N := N) hmix hs k x l (reM M) (nd_labF _ _) h
  rwa [← m_re] at this
/-- A state is written out. -/
theorem w_as (σ' : Sl) (H' : List Own) (h : W P N c σ' H' S Qs) (e : (keep (σ'.map (·.1)) σ, H) = (σ', H') := by kernel_rfl) : W P N c σ H S Qs := by
  obtain ⟨h1, h2⟩ := Prod.mk.inj e
  subst h2
  exact w_slots (keep_sub _ h1) h
theorem t_as (σ' : Sl) (H' : List Own) {ops : List O} (h : T P N all ops σ' H' S Q) (e : (keep (σ'.map (·.1)) σ, H) = (σ', H') := by kernel_rfl) : T P N all ops σ H S Q := by
  obtain ⟨h1, h2⟩ := Prod.mk.inj e
  subst h2
  exact t_slots (keep_sub _ h1) h
/-- Blocks told by their places. -/
def pkG : List Nat → List (List Own) → Option (List Own × List (List Own))
  | [], B => some ([], B)
  | i :: is, B => match B[i]?, pkG is (B.eraseIdx i) with
    | some b, some (r, A) => some (b ++ r, A)
    | _, _ => none
theorem er_perm : ∀ (i : Nat) (B : List (List Own)) {b : List Own}, B[i]? = some b → B.Perm (b :: B.eraseIdx i)
  | _, [], _, h => by simp at h
  | 0, a :: r, b, h => by simp at h; subst h; simp
  | i + 1, a :: r, b, h => by
    have := er_perm i r (by simpa using h)
    rw [List.eraseIdx_cons_succ]
    exact ((this.cons a).trans (.swap b a _))
theorem pkG_perm : ∀ (is : List Nat) (B : List (List Own)) {r : List Own} {A : List (List Own)}, pkG is B = some (r, A) → B.flatten.Perm (r ++ A.flatten)
  | [], B, r, A, h => by simp only [pkG, Option.some.injEq, Prod.mk.injEq] at h; obtain ⟨rfl, rfl⟩ := h; exact .refl _
  | i :: is, B, r, A, h => by
    simp only [pkG] at h
    split at h
    · rename_i b r' A' hb hr
      simp only [Option.some.injEq, Prod.mk.injEq] at h
      obtain ⟨rfl, rfl⟩ := h
      have h1 := pkG_perm is _ hr
      have h3 := (er_perm i B hb).flatten
      simp only [List.flatten_cons] at h3
      exact h3.trans (by rw [List.append_assoc]; exact List.Perm.append_left b h1)
    · cases h
def pk (is : List Nat) (B : List (List Own)) : Option (List Own) := match pkG is B with
  | some (r, _) => some r
  | none => none
theorem VS.lb (is : List Nat) {H' : List Own} (e : pk is (M.map Prod.snd) = some H') : VS (ows M) S H' S := by
  unfold pk at e
  split at e
  · rename_i r A h
    obtain rfl := Option.some.inj e
    rw [← ows_snd]
    exact (VS.perm (pkG_perm is _ h)).trans VS.drop
  · cases e
theorem VS.as (H' : List Own) {A : List Own} {S' : Seal} (h : VS H' S A S') (h0 : H = H' := by kernel_rfl) : VS H S A S' := by
  subst h0; exact h
end
end Go.Proofs.YtobjaddicodiaaaDoorE
end

section
/- What is told of lists that grow. Own work. -/
namespace Go.Proofs.YtobjaddicodiaaaDoorE
open Go Go.RowKit
set_option linter.unusedVariables false
section
variable {P : Program} {S : Seal}
/-- A nil slice is a list. -/
def spV (p : SpP P S) (h : p.p.A = [[⟨none, [], 0⟩]] := by rfl) : SpP P S :=
  ⟨{ p.p with A := [] }, p.hf, by
    obtain ⟨⟨k, vs, A, R, t, v, B, nb, φ⟩, hf, hk, ok⟩ := p
    simp only at h
    subst h
    refine ⟨hk, fun N all r Q σ F d g hw he hK => ?_⟩
    exact t_vs VS.vac (ok N all r Q σ F d g hw he hK)⟩
/-- Longer by what is known. -/
def spX {α : Type} (e : TypeId) (z bytes : Nat) (zero : List Value) (x y : Operand) {E : En α} {L X L' : List α} (a : Option Nat) (M : Nat) (a2 : Option Addr) (m c : Nat) (R : List (List Own)) (hn : ∀ F, X = [] ∨ ∃ b2 k2, a2 = some ⟨b2, k2, none⟩ ∧ Rn (⟨a, encL E L, M⟩ :: (R.flatten ++ F)) S b2 k2 (m * z) (encL E X)) (hl : lapp L X = some L')
    (hm : m = X.length := by rfl) (hz : E.z = z := by rfl) (hz0 : 0 < z := by decide) (hby : bytes ≤ 32768 := by decide) (hzz : zero.length = z := by rfl) : SpP P S :=
  ⟨⟨.app e z bytes zero x y, [.slice (ad a) L.length (M / z), .slice a2 m c], [[⟨a, encL E L, M⟩]], R, [1, 0], fun l => .slice (ad (l.O 0)) L'.length (l.N 0 / z), fun l => [[⟨l.O 0, encL E L', l.N 0⟩]], 1, fun _ => True⟩, false, by
    refine ⟨(by intro h; cases h), fun N all r Q σ F d g hw he hK => ?_⟩
    obtain ⟨u, w, e1, e2, e3⟩ := evs2 he
    simp only [List.cons.injEq, and_true] at e1
    obtain ⟨rfl, rfl⟩ := e1
    exact t_appX rfl hw e2 e3 (.refl _) hm (hn F) hz hz0 hby hzz hl fun a' M' => hK (un ⟨[M'], [a'], [], [], []⟩) trivial⟩
/-- Longer by elements that may lead further. -/
def spN {α : Type} (e : TypeId) (z bytes : Nat) (zero : List Value) (x y : Operand) {Rd_ : Rd} {E : Nn α} {L X L' : List α} {cs ds : List Value} (a : Option Nat) (M : Nat) (b2 k2 m c : Nat) (R : List (List Own)) (hL : RL Rd_ E L cs) (hX : RL Rd_ E X ds) (hn : ∀ F, Rn (⟨a, cs, M⟩ :: (R.flatten ++ F)) S b2 k2 (m * z) ds) (hl : lapp L X = some L')
    (hm : m = X.length := by rfl) (h0 : 0 < m := by decide) (hz : E.z = z := by rfl) (hz0 : 0 < z := by decide) (hby : bytes ≤ 32768 := by decide) (hzz : zero.length = z := by rfl) : SpP P S :=
  ⟨⟨.app e z bytes zero x y, [.slice (ad a) L.length (M / z), .slice (some ⟨b2, k2, none⟩) m c], [[⟨a, cs, M⟩]], R, [1, 0, 3], fun l => .slice (ad (l.O 0)) L'.length (l.N 0 / z), fun l => [[⟨l.O 0, l.C 0, l.N 0⟩]], 1, fun l => RL Rd_ E L' (l.C 0)⟩, true, by
    refine ⟨(by intro h; cases h), fun N all r Q σ F d g hw he hK => ?_⟩
    obtain ⟨u, w, e1, e2, e3⟩ := evs2 he
    simp only [List.cons.injEq, and_true] at e1
    obtain ⟨rfl, rfl⟩ := e1
    exact t_appN rfl hw e2 e3 (.refl _) hL hX hm h0 (hn F) hz hz0 hby hzz hl fun a' M' cs' hr => hK (un ⟨[M'], [a'], [], [cs'], []⟩) hr⟩
end
end Go.Proofs.YtobjaddicodiaaaDoorE
end
