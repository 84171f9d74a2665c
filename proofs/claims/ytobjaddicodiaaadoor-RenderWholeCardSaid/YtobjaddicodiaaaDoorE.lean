/- A logic of owned and sealed memory over the machine's steps. Own work of these sessions. -/
import Derived.Test.YtobjaddicodiaaaDoorEa
import Derived.Below
import Derived.Laws.MakeOwn
import Derived.Maps.AppendAt
import Derived.ArgAppend
import Derived.ChangeArms
import Derived.WideShapes
import Derived.LaidEqlPtr
import Derived.LaidLaws
import Derived.ChangeBears2
section
/- The rules, as a proof uses them. -/
namespace Go.Proofs.YtobjaddicodiaaaDoorE
open Go Go.RowKit
set_option linter.unusedVariables false
set_option linter.unusedSimpArgs false

section
variable {P : Program} {N : Nat} {all : Array Oper} {r : List O} {o : O} {σ : Sl} {H : List Own} {S : Seal} {Q : Pst}

theorem DV.nf {e : E} (h : DV P H S σ o e) : o.k ≠ .fail := by
  intro hf
  cases h with
  | quiet hw h => rw [hf] at h; simp [qv] at h
  | quietH hw hf2 h => exact hf2 hf
  | skip hw h => exact h hf
  | new hw h => rw [hf] at h; cases h
  | box hw h hv => rw [hf] at h; cases h
  | bsl hw h hv hl => rw [hf] at h; cases h
  | ld1 hw h hx hr => rw [hf] at h; cases h
  | ldn hw h hx hr => rw [hf] at h; cases h
  | eqt hw h hx hy hr hv => rw [hf] at h; cases h
  | eqp hw h hx hy hr hv => rw [hf] at h; cases h
  | callr hw h hv hp hc => rw [hf] at h; cases h
  | clor hw h hf2 hok hv hp hc => rw [hf] at h; cases h
  | call hw h hv hc => rw [hf] at h; cases h

def dvT (P : Program) (N : Nat) (all : Array Oper) (r : List O) (σ : Sl) (o : O) (H : List Own) (S : Seal) (Q : Pst) : E → Prop
  | .v x => T P N all r (pt σ o.d x) H S Q
  | .a cs mk => ∀ b, Fr b H → S b = none → T P N all r (pt σ o.d (mk b)) (⟨some b, cs, cs.length⟩ :: H) S Q
theorem t_dv {e : E} (d : DV P H S σ o e) (h : dvT P N all r σ o H S Q e) : T P N all (o :: r) σ H S Q := by
  cases hw : wtd σ o.g with
  | none => cases d <;> simp_all
  | some b =>
    cases b with
    | false =>
      have he : e = .v undef := by cases d <;> simp_all
      subst he
      exact t_skip d.nf hw h
    | true =>
      refine t_op d.nf hw ?_
      intro p ts w K R hk hd hlt hσ hH hK
      refine dv_run (F := []) d hw hk hd hσ hH ?_
      intro v F1 w1 hm hh hs
      obtain ⟨f1, f2⟩ := hH.fresh (Nat.le_refl w.heap.size)
      cases e with
      | v x =>
        obtain ⟨rfl, rfl⟩ := hm
        exact hK v (pt σ o.d v) H S w1 (hσ.pt (fun t ht => hlt t (by rw [hd]; exact ht)) []) hh hs h
      | a cs mk =>
        obtain ⟨rfl, rfl⟩ := hm
        exact hK _ (pt σ o.d (mk w.heap.size)) _ S w1 (hσ.pt (fun t ht => hlt t (by rw [hd]; exact ht)) []) hh hs (h _ (Fr.of f1) f2)
theorem t_v {x : Value} (d : DV P H S σ o (.v x)) (h : T P N all r (pt σ o.d x) H S Q) : T P N all (o :: r) σ H S Q := t_dv d h
theorem t_a {cs : List Value} {mk : Nat → Value} (d : DV P H S σ o (.a cs mk)) (h : ∀ b, Fr b H → S b = none → T P N all r (pt σ o.d (mk b)) (⟨some b, cs, cs.length⟩ :: H) S Q) : T P N all (o :: r) σ H S Q := t_dv d h

theorem t_vs {H' : List Own} {S' : Seal} {ops : List O} (v : VS H S H' S') (h : T P N all ops σ H' S' Q) : T P N all ops σ H S Q := by
  intro L hL ts w R hσ hN hH hR
  obtain ⟨h1, h2⟩ := v w hH
  exact h L hL ts w R hσ hN h1 fun σ' H2 S2 ts' w' q a1 a2 a3 st => hR σ' H2 S2 ts' w' q a1 a2 a3 (h2.trans st)
theorem t_keep (L : List Nat) {σ' : Sl} {ops : List O} (e : keep L σ = σ') (h : T P N all ops σ' H S Q) : T P N all ops σ H S Q := by
  subst e
  exact fun l hL ts w R hσ hN hH hR => h l hL ts w R (hσ.keep L) hN hH hR
theorem w_kp {c : C} {Q : Qst} (L : List Nat) {σ' : Sl} (e : keep L σ = σ') (h : W P N c σ' H S Q) : W P N c σ H S Q := by
  subst e; exact w_keep L h

/-- So many quiet operations at once. -/
def qz (H : List Own) (S : Seal) : Nat → List O → Sl → Option Sl
  | 0, _, σ => some σ
  | _ + 1, [], _ => none
  | n + 1, o :: r, σ => match wtd σ o.g with
    | some true => match qv H S σ o.k with
      | some v => qz H S n r (pt σ o.d v)
      | none => none
    | some false => if isFail o.k then none else qz H S n r (pt σ o.d undef)
    | none => none
theorem t_qz0 : ∀ {n : Nat} {ops : List O} {σ σ' : Sl}, qz H S n ops σ = some σ' → T P N all (ops.drop n) σ' H S Q → T P N all ops σ H S Q
  | 0, ops, σ, σ', e, h => by simp only [qz, Option.some.injEq] at e; subst e; exact h
  | n + 1, [], σ, σ', e, h => by simp [qz] at e
  | n + 1, o :: l, σ, σ', e, h => by
    unfold qz at e
    split at e
    · rename_i hw
      split at e
      · rename_i v hv
        exact t_quiet hw hv (t_qz0 e h)
      · cases e
    · rename_i hw
      split at e
      · cases e
      · rename_i hf
        exact t_skip (fun hk => by rw [hk] at hf; exact hf rfl) hw (t_qz0 e h)
    · cases e
def kpo (L : List Nat) : Option Sl → Option Sl
  | none => none
  | some σ => some (keep L σ)
theorem t_qz (n : Nat) (L : List Nat) {ops : List O} {σ' : Sl} (e : kpo L (qz [] S n ops σ) = some σ') (h : T P N all (ops.drop n) σ' H S Q) : T P N all ops σ H S Q := by
  have mono : ∀ n ops σ σ1, qz [] S n ops σ = some σ1 → (∀ k v, qv [] S σ k = some v → True) → True := fun _ _ _ _ _ _ => trivial
  cases hq : qz [] S n ops σ with
  | none => rw [hq] at e; cases e
  | some σ1 =>
    rw [hq] at e
    simp only [kpo, Option.some.injEq] at e
    have h2 : T P N all (ops.drop n) σ1 H S Q := t_keep L e h
    intro l hL ts w R hσ hN hH hR
    have hH0 : HOK [] S w := (show HOK ([] ++ H) S w from hH).drop
    have key : ∀ (n : Nat) (ops : List O) (σ σ1 : Sl), qz [] S n ops σ = some σ1 → T P N all (ops.drop n) σ1 H S Q → T P N all ops σ H S Q := by
      intro n
      induction n with
      | zero => intro ops σ σ1 e h; simp only [qz, Option.some.injEq] at e; subst e; exact h
      | succ n ih =>
        intro ops σ σ1 e h
        cases ops with
        | nil => simp [qz] at e
        | cons o l =>
          unfold qz at e
          split at e
          · rename_i hw
            split at e
            · rename_i v hv
              refine t_op (fun e => by rw [e] at hv; simp [qv] at hv) hw ?_
              intro p ts w K R hk hd hlt hσ hH hK
              have hH0 : HOK [] S w := (show HOK ([] ++ H) S w from hH).drop
              rw [← hk] at hv
              have := quiet (df := []) hσ hH0 hv
              unfold Oper.wp
              rw [this, Oper.upon_value, hd]
              exact hK v (pt σ o.d v) H S w (hσ.pt (fun t ht => hlt t (by rw [hd]; exact ht)) []) hH (Step.refl _ _ _) (ih l _ σ1 e h)
            · cases e
          · rename_i hw
            split at e
            · cases e
            · rename_i hf
              exact t_skip (fun hk => by rw [hk] at hf; exact hf rfl) hw (ih l _ σ1 e h)
          · cases e
    exact key n ops σ σ1 hq h2 l hL ts w R hσ hN hH hR

/-- A store into an owned block, by its place. -/
theorem t_sti (i : Nat) {b m n k : Nat} {x y : Operand} {v : Value} {cs0 cs : List Value} {H' : List Own} (hk : o.k = .st n x y) (hw : wtd σ o.g = some true) (hx : ev σ x = some (.pointer (some ⟨b, k, none⟩))) (hy : ev σ y = some v) (he : H[i]? = some ⟨some b, cs0, m⟩)
    (hl : (cl v).length = n) (h1 : (cl v).all (·.oneCell') = true) (hs : stl cs0 k (cl v) = some cs) (hH' : H.set i ⟨some b, cs, m⟩ = H') (h : T P N all r (pt σ o.d undef) H' S Q) : T P N all (o :: r) σ H S Q := by
  subst hH'
  obtain ⟨e, heb, rfl, rfl, hee⟩ : ∃ e : Own, e.b = some b ∧ e.cs = cs0 ∧ e.n = m ∧ (⟨some b, cs0, m⟩ : Own) = e := ⟨⟨some b, cs0, m⟩, rfl, rfl, rfl, rfl⟩
  rw [hee] at he
  rw [← heb] at h
  obtain ⟨A, B, rfl, hi⟩ : ∃ A B, H = A ++ e :: B ∧ i = A.length := by
    have hlt := (List.getElem?_eq_some_iff.1 he).1
    refine ⟨H.take i, H.drop (i + 1), ?_, by simp; omega⟩
    have h2 : H[i] = e := (List.getElem?_eq_some_iff.1 he).2
    rw [← h2, ← List.drop_eq_getElem_cons hlt, List.take_append_drop]
  subst hi
  have hset : (A ++ e :: B).set A.length ⟨e.b, cs, e.n⟩ = A ++ ⟨e.b, cs, e.n⟩ :: B := by simp
  rw [hset] at h
  refine t_vs (H' := e :: (A ++ B)) (S' := S) (VS.perm List.perm_middle) ?_
  have hst : stH (e :: (A ++ B)) b k (cl v) = some (⟨e.b, cs, e.n⟩ :: (A ++ B)) := by unfold stH; rw [if_pos heb, hs]
  refine t_st hk hw hx hy hl h1 hst ?_
  exact t_vs (VS.perm List.perm_middle.symm) h

/-! ### regions that draw -/
inductive DI (P : Program) (H : List Own) (S : Seal) : List O → Sl → List E → Prop
  | nil {σ : Sl} : DI P H S [] σ []
  | cons {o : O} {r : List O} {σ : Sl} {e : E} {es : List E} (d : DV P H S σ o e) (h : DI P H S r (upd σ o e) es) : DI P H S (o :: r) σ (e :: es)
def qvs (S : Seal) : Nat → List O → Sl → Option (List Value × Sl)
  | 0, _, σ => some ([], σ)
  | _ + 1, [], _ => none
  | n + 1, o :: r, σ => match wtd σ o.g with
    | some true => match qv [] S σ o.k with
      | some v => match qvs S n r (pt σ o.d v) with
        | some (vs, σ') => some (v :: vs, σ')
        | none => none
      | none => none
    | some false => if isFail o.k then none else match qvs S n r (pt σ o.d undef) with
      | some (vs, σ') => some (undef :: vs, σ')
      | none => none
    | none => none
theorem qv_nil {H : List Own} {S : Seal} {σ : Sl} {k : K} {v : Value} (h : qv [] S σ k = some v) : (∃ n x, k = .ld n x) ∨ qv H S σ k = some v := by
  cases k
  case ld n x => exact Or.inl ⟨n, x, rfl⟩
  case fld n f x => cases n <;> exact Or.inr h
  case ixv n z m x i => cases n <;> exact Or.inr h
  all_goals exact Or.inr h
theorem dv_quiet {v : Value} (hw : wtd σ o.g = some true) (h : qv [] S σ o.k = some v) : DV P H S σ o (.v v) := by
  rcases qv_nil (H := H) h with ⟨n, x, hk⟩ | h2
  · rw [hk] at h
    cases n with
    | none =>
      simp only [qv] at h
      split at h
      · rename_i b k hx
        simp only [rd1] at h
        split at h
        · rename_i l hl; exact .ld1 hw hk hx (.sealed hl h)
        · cases h
      · cases h
    | some n =>
      simp only [qv] at h
      split at h
      · rename_i b k hx
        simp only [rdn] at h
        split at h
        · rename_i vs hvs
          split at hvs
          · rename_i l hl
            obtain rfl := Option.some.inj h
            exact .ldn hw hk hx (.sealed hl hvs)
          · cases hvs
        · cases h
      · cases h
  · exact .quiet hw h2
theorem DI.seg : ∀ (n : Nat) {ops : List O} {σ σ' : Sl} {vs : List Value} {es : List E}, qvs S n ops σ = some (vs, σ') → DI P H S (ops.drop n) σ' es → DI P H S ops σ (vs.map E.v ++ es)
  | 0, ops, σ, σ', vs, es, e, h => by simp only [qvs, Option.some.injEq, Prod.mk.injEq] at e; obtain ⟨rfl, rfl⟩ := e; exact h
  | n + 1, [], σ, σ', vs, es, e, h => by simp [qvs] at e
  | n + 1, o :: l, σ, σ', vs, es, e, h => by
    unfold qvs at e
    split at e
    · rename_i hw
      split at e
      · rename_i v hv
        split at e
        · rename_i vs1 σ1 h1
          simp only [Option.some.injEq, Prod.mk.injEq] at e
          obtain ⟨rfl, rfl⟩ := e
          exact .cons (dv_quiet hw hv) (DI.seg n h1 h)
        · cases e
      · cases e
    · rename_i hw
      split at e
      · cases e
      · rename_i hf
        split at e
        · rename_i vs1 σ1 h1
          simp only [Option.some.injEq, Prod.mk.injEq] at e
          obtain ⟨rfl, rfl⟩ := e
          exact .cons (.skip hw (fun hk => by rw [hk] at hf; exact hf rfl)) (DI.seg n h1 h)
        · cases e
    · cases e
theorem DI.dl : ∀ {ops : List O} {σ : Sl} {es : List E}, DI P H S ops σ es → DL P H S (ops.zip es) σ ∧ ops.length = es.length
  | _, _, _, .nil => ⟨trivial, rfl⟩
  | _, _, _, .cons d h => by
    obtain ⟨h1, h2⟩ := h.dl
    exact ⟨⟨d, h1⟩, by simp [h2]⟩
theorem w_drwE {Q : Qst} {L : List O} {ds : List (List Nat)} (hmix : P.follows .mixedOrders = true) (m : Nat) (es : List E) (hst : statB L m ds = true) (hdi : DI P H S (L.take m) σ es)
    (hfin : finK S ((L.take m).zip es) σ H fun σ' H' => ∀ all, T P N all (L.drop m) σ' H' S (Q .nrm)) : W P N (.drw L ds) σ H S Q := by
  obtain ⟨h1, h2⟩ := hdi.dl
  have hm : ((L.take m).zip es).length = (L.take m).length := by simp [h2]
  by_cases hml : m ≤ L.length
  · have hlen : ((L.take m).zip es).length = m := by rw [hm]; simp; omega
    refine w_drw hmix ((L.take m).zip es) (ws := L.drop m) ?_ (by rw [hlen]; exact hst) h1 hfin
    rw [List.map_fst_zip (by omega), List.take_append_drop]
  · have hlen : ((L.take m).zip es).length = L.length := by rw [hm]; simp; omega
    have hst2 : statB L L.length ds = true := by
      unfold statB at hst ⊢
      simp only [List.all_eq_true, List.mem_range, Bool.and_eq_true, Bool.or_eq_true, decide_eq_true_eq] at hst ⊢
      intro j hj
      obtain ⟨a, b⟩ := hst j hj
      exact ⟨a, fun i hi => (b i hi).imp id (fun c => ⟨hj, c.2⟩)⟩
    refine w_drw hmix ((L.take m).zip es) (ws := L.drop m) ?_ (by rw [hlen]; exact hst2) h1 hfin
    rw [List.map_fst_zip (by omega), List.take_append_drop]
def fq : Nat → List (O × E) → Sl → Option Sl
  | 0, _, σ => some σ
  | n + 1, (o, .v x) :: r, σ => fq n r (pt σ o.d x)
  | _ + 1, _, _ => none
theorem fk_q (n : Nat) (L : List Nat) {l : List (O × E)} {σ' : Sl} {K : Sl → List Own → Prop} (hK : ∀ σ1 σ2 H1, (∀ t v, gt σ2 t = some v → gt σ1 t = some v) → K σ2 H1 → K σ1 H1) (e : kpo L (fq n l σ) = some σ') (h : finK S (l.drop n) σ' H K) : finK S l σ H K := by
  have mono : ∀ (l : List (O × E)) (σ1 σ2 : Sl) (H : List Own), (∀ t v, gt σ2 t = some v → gt σ1 t = some v) → finK S l σ2 H K → finK S l σ1 H K := by
    intro l
    induction l with
    | nil => intro σ1 σ2 H hs h; exact hK _ _ _ hs h
    | cons x l ih =>
      obtain ⟨o, e⟩ := x
      have hp : ∀ (σ1 σ2 : Sl) (v : Value), (∀ t v, gt σ2 t = some v → gt σ1 t = some v) → ∀ t u, gt (pt σ2 o.d v) t = some u → gt (pt σ1 o.d v) t = some u := by
        intro σ1 σ2 v hs t u
        cases o.d with
        | none => exact hs t u
        | some d =>
          simp only [pt, gt]
          split
          · exact id
          · exact hs t u
      intro σ1 σ2 H hs h
      cases e with
      | v x => exact ih _ _ H (hp σ1 σ2 x hs) h
      | a cs mk => exact fun b f s => ih _ _ _ (hp σ1 σ2 (mk b) hs) (h b f s)
  cases hq : fq n l σ with
  | none => rw [hq] at e; cases e
  | some σ1 =>
    rw [hq] at e
    simp only [kpo, Option.some.injEq] at e
    have h2 : finK S (l.drop n) σ1 H K := by
      refine mono _ σ1 σ' H ?_ h
      intro t v hv
      rw [← e] at hv
      by_cases ht : t ∈ L
      · rwa [keep_get ht] at hv
      · exfalso
        have : ∀ (L : List Nat) v, gt (keep L σ1) t = some v → t ∈ L := by
          intro L
          induction L with
          | nil => intro v h; cases h
          | cons y L ih =>
            intro v h
            unfold keep at h ih
            cases hy : gt σ1 y with
            | none => simp only [List.filterMap_cons, hy, Option.map_none] at h; exact List.mem_cons_of_mem _ (ih v h)
            | some u =>
              simp only [List.filterMap_cons, hy, Option.map_some, gt] at h
              split at h
              · rename_i e; subst e; simp
              · exact List.mem_cons_of_mem _ (ih v h)
        exact ht (this _ _ hv)
    clear h e
    induction n generalizing l σ with
    | zero => simp only [fq, Option.some.injEq] at hq; subst hq; exact h2
    | succ n ih =>
      cases l with
      | nil => simp [fq] at hq
      | cons x l =>
        obtain ⟨o, e⟩ := x
        cases e with
        | v x => exact ih (l := l) (σ := pt σ o.d x) hq h2
        | a cs mk => simp [fq] at hq
theorem fk_a {o : O} {cs : List Value} {mk : Nat → Value} {l : List (O × E)} {K : Sl → List Own → Prop} (h : ∀ b, Fr b H → S b = none → finK S l (pt σ o.d (mk b)) (⟨some b, cs, cs.length⟩ :: H) K) : finK S ((o, .a cs mk) :: l) σ H K := h
theorem fk_nil {K : Sl → List Own → Prop} (h : K σ H) : finK S [] σ H K := h
theorem t_more {ops : List O} : ∀ σ1 σ2 (H1 : List Own), (∀ t v, gt σ2 t = some v → gt σ1 t = some v) → (∀ all, T P N all ops σ2 H1 S Q) → ∀ all, T P N all ops σ1 H1 S Q :=
  fun σ1 σ2 H1 hs h all l hL ts w R hσ hN hH hR => h all l hL ts w R (fun t v g => hσ t v (hs t v g)) hN hH hR

def pts : Nat → List O → List E → Sl → Sl
  | n + 1, o :: r, .v v :: es, σ => pts n r es (pt σ o.d v)
  | _, _, _, σ => σ
/-- So many quiet operations come to just these values. -/
def qw (S : Seal) : Nat → List O → Sl → List E → Option (List Value)
  | 0, _, _, _ => some []
  | n + 1, o :: r, σ, .v x :: es => match wtd σ o.g with
    | some true => match qv [] S σ o.k with
      | some v => match qw S n r (pt σ o.d x) es with
        | some vs => some (v :: vs)
        | none => none
      | none => none
    | some false => if isFail o.k then none else match qw S n r (pt σ o.d x) es with
      | some vs => some (undef :: vs)
      | none => none
    | none => none
  | _, _, _, _ => none
def evals : Nat → List E → Option (List Value)
  | 0, _ => some []
  | n + 1, .v v :: es => match evals n es with
    | some vs => some (v :: vs)
    | none => none
  | _, _ => none
theorem DI.sq : ∀ (n : Nat) {ops : List O} {σ : Sl} {es : List E}, qw S n ops σ es = evals n es → (evals n es).isSome = true → DI P H S (ops.drop n) (pts n ops es σ) (es.drop n) → DI P H S ops σ es
  | 0, ops, σ, es, _, _, h => by simpa [pts] using h
  | n + 1, ops, σ, es, e, h0, h => by
    cases es with
    | nil => simp [evals] at h0
    | cons x es =>
      cases x with
      | a cs mk => simp [evals] at h0
      | v x =>
        cases ops with
        | nil => rw [← e] at h0; simp [qw] at h0
        | cons o l =>
          simp only [qw, evals] at e
          simp only [evals] at h0
          cases hev : evals n es with
          | none => rw [hev] at h0; simp at h0
          | some vs =>
            rw [hev] at e
            simp only at e
            split at e
            · rename_i hw
              split at e
              · rename_i v hv
                split at e
                · rename_i vs' h1
                  simp only [Option.some.injEq, List.cons.injEq] at e
                  obtain ⟨rfl, rfl⟩ := e
                  exact .cons (dv_quiet hw hv) (DI.sq n (h1.trans hev.symm) (by rw [hev]; rfl) h)
                · cases e
              · cases e
            · rename_i hw
              split at e
              · cases e
              · rename_i hf
                split at e
                · rename_i vs' h1
                  simp only [Option.some.injEq, List.cons.injEq] at e
                  obtain ⟨rfl, rfl⟩ := e
                  exact .cons (.skip hw (fun hk => by rw [hk] at hf; exact hf rfl)) (DI.sq n (h1.trans hev.symm) (by rw [hev]; rfl) h)
                · cases e
            · cases e

/-! ### values behind a test -/
theorem qv_shl {x y : Operand} {k k' : IntKind} {a b : Int} (hx : ev σ x = some (.int k a)) (hy : ev σ y = some (.int k' b)) (h : ¬ b < 0) : qv H S σ (.bin .shl x y) = some (.int k (k.wrap (a * 2 ^ (min b.toNat k.bits)))) := by
  simp only [qv, hx, hy, binv, if_neg h]
theorem qv_shr {x y : Operand} {k k' : IntKind} {a b : Int} (hx : ev σ x = some (.int k a)) (hy : ev σ y = some (.int k' b)) (h : ¬ b < 0) : qv H S σ (.bin .shr x y) = some (.int k (a.fdiv (2 ^ (min b.toNat k.bits)))) := by
  simp only [qv, hx, hy, binv, if_neg h]
theorem qv_quo {x y : Operand} {k : IntKind} {a b : Int} (hx : ev σ x = some (.int k a)) (hy : ev σ y = some (.int k b)) (h : ¬ b = 0) : qv H S σ (.bin .quo x y) = some (.int k (k.wrap (a.tdiv b))) := by
  simp only [qv, hx, hy, binv, if_neg h, if_true]
theorem qv_rem {x y : Operand} {k : IntKind} {a b : Int} (hx : ev σ x = some (.int k a)) (hy : ev σ y = some (.int k b)) (h : ¬ b = 0) : qv H S σ (.bin .rem x y) = some (.int k (a.tmod b)) := by
  simp only [qv, hx, hy, binv, if_neg h, if_true]
theorem qv_ixa {z m b q : Nat} {x y : Operand} {k : IntKind} {j : Int} (hx : ev σ x = some (.pointer (some ⟨b, q, none⟩))) (hy : ev σ y = some (.int k j)) (h : 0 ≤ j ∧ j < m) : qv H S σ (.ixa z m x y) = some (.pointer (some ⟨b, q + j.toNat * z, none⟩)) := by
  simp only [qv, hx, hy, if_pos h]
theorem qv_ixs {z b q len cap : Nat} {x y : Operand} {k : IntKind} {j : Int} (hx : ev σ x = some (.slice (some ⟨b, q, none⟩) len cap)) (hy : ev σ y = some (.int k j)) (h : 0 ≤ j ∧ j < len) : qv H S σ (.ixs z x y) = some (.pointer (some ⟨b, q + j.toNat * z, none⟩)) := by
  simp only [qv, hx, hy, if_pos h]
def mx (a b : Int) : Int := if b > a then b else a
def mn (a b : Int) : Int := if b < a then b else a

/-! ### cuts -/
/-- Where ways meet: from here on by what holds. -/
def mt (L : List Nat) (M : Pst) (Q : Qst) : Qst
  | .nrm => fun σ H S => ∃ H1 S1, VS H S H1 S1 ∧ M (keep L σ) H1 S1
  | x => Q x
theorem w_cut {a b : C} {Q : Qst} (L : List Nat) (M : Pst) (h1 : W P N a σ H S (mt L M Q)) (h2 : ∀ σ H S, M σ H S → W P N b σ H S Q) : W P N (.seq a b) σ H S Q := by
  refine w_seq (w_mono h1 ?_)
  intro x σ' H' S' q
  cases x with
  | nrm => obtain ⟨H1, S1, v, q⟩ := q; exact w_vs v (w_keep L (h2 _ _ _ q))
  | ret => exact q
  | ex i => exact q
theorem keep_sub (L : List Nat) {σ' : Sl} (e : keep L σ = σ') : ∀ t v, gt σ' t = some v → gt σ t = some v := by
  intro t v hv
  rw [← e] at hv
  have : ∀ (L : List Nat) v, gt (keep L σ) t = some v → t ∈ L := by
    intro L
    induction L with
    | nil => intro v h; cases h
    | cons y L ih =>
      intro v h
      unfold keep at h ih
      cases hy : gt σ y with
      | none => simp only [List.filterMap_cons, hy, Option.map_none] at h; exact List.mem_cons_of_mem _ (ih v h)
      | some u =>
        simp only [List.filterMap_cons, hy, Option.map_some, gt] at h
        split at h
        · rename_i e; subst e; simp
        · exact List.mem_cons_of_mem _ (ih v h)
  rwa [keep_get (this L v hv)] at hv

theorem t_end {Q : Pst} (h : Q σ H S) : T P N all [] σ H S Q := t_nil h
theorem VS.mask : ∀ (m : List Bool) {H H' : List Own}, ((m.zip H).filter (·.1)).map (·.2) = H' → m.length = H.length → VS H S H' S := by
  intro m
  induction m with
  | nil => intro H H' h hl; cases H with
    | nil => simp at h; subst h; exact VS.refl _ _
    | cons e H => simp at hl
  | cons b m ih =>
    intro H H' h hl
    cases H with
    | nil => simp at hl
    | cons e H =>
      simp only [List.length_cons, Nat.add_right_cancel_iff] at hl
      cases b with
      | false =>
        simp only [List.zip_cons_cons, List.filter_cons, Bool.false_eq_true, if_false] at h
        exact VS.tail.trans (ih h hl)
      | true =>
        simp only [List.zip_cons_cons, List.filter_cons, if_true, List.map_cons] at h
        subst h
        exact VS.cons (ih rfl hl)
theorem bind_of {α β : Type} {x : Option α} {f : α → Option β} {r : β} (h : x.bind f = some r) : ∃ t, x = some t ∧ f t = some r := by
  cases x with
  | none => cases h
  | some t => exact ⟨t, rfl, h⟩
end
end Go.Proofs.YtobjaddicodiaaaDoorE
end

section
/- A law's call, as its statement asks for it. -/
namespace Go.Proofs.YtobjaddicodiaaaDoorE
open Go Go.RowKit
@[reducible] def wr64 (n : Int) : Int := IntKind.i64.wrap n
@[reducible] def wr32 (n : Int) : Int := IntKind.i32.wrap n
@[reducible] def wr16 (n : Int) : Int := IntKind.i16.wrap n
@[reducible] def wr8 (n : Int) : Int := IntKind.i8.wrap n
@[reducible] def wru64 (n : Int) : Int := IntKind.u64.wrap n
@[reducible] def wru32 (n : Int) : Int := IntKind.u32.wrap n
@[reducible] def wru16 (n : Int) : Int := IntKind.u16.wrap n
@[reducible] def wru8 (n : Int) : Int := IntKind.u8.wrap n
theorem w64 {n : Int} (h0 : -9223372036854775808 ≤ n) (h1 : n ≤ 9223372036854775807) : wr64 n = n := by
  show IntKind.i64.wrap n = n
  rw [IntKind.wrap_i64]
  omega
theorem wu64 {n : Int} (h0 : 0 ≤ n) (h1 : n ≤ 18446744073709551615) : wru64 n = n := by
  show n % 18446744073709551616 = n
  omega
theorem wr64_eq (n : Int) : wr64 n = (n + 9223372036854775808) % 18446744073709551616 - 9223372036854775808 := by
  show IntKind.i64.wrap n = _
  rw [IntKind.wrap_i64]
theorem wru8_eq (n : Int) : wru8 n = n % 256 := rfl
theorem wru64_eq (n : Int) : wru64 n = n % 18446744073709551616 := rfl
def noS : Seal := ⟨fun _ => none, fun _ => False⟩
theorem hok0 (w : World) : HOK [] noS w := ⟨fun _ h => (by cases h), List.nodup_nil, fun _ h => (by cases h), fun _ _ h => (by cases h), fun _ h => h.elim⟩
theorem law_w {P : Program} {f : FuncId} {args : List Value} {S : Seal} {u : Value} {w : World} (hS : HOK [] S w) (h : Cal P f args [] S fun v H' S' => v = u ∧ H' = [] ∧ S' = S) :
    Calls P f args.toArray w fun e w' => e = .returned u ∧ Below w.heap.size w w' :=
  (h w hS).mono fun e w' ⟨v, H', S', he, ⟨hv, _, _⟩, _, st⟩ => ⟨by rw [he, hv], ⟨st.ext.os, st.ext.tape, st.ext.output, st.ext.size, fun k hk => st.ext.block k hk (by simp)⟩⟩
/-- Some of the blocks, by their places (each place counted in what is left), and the others. -/
def sel : List Nat → List Own → Option (List Own × List Own)
  | [], H => some ([], H)
  | i :: is, H => match H[i]? with
    | some e => match sel is (H.eraseIdx i) with
      | some (A, F) => some (e :: A, F)
      | none => none
    | none => none
theorem ei_perm : ∀ {H : List Own} {i : Nat} {e : Own}, H[i]? = some e → H.Perm (e :: H.eraseIdx i)
  | [], i, e, h => by simp at h
  | a :: H, 0, e, h => by simp at h; subst h; exact List.Perm.refl _
  | a :: H, i + 1, e, h => by
    simp only [List.getElem?_cons_succ] at h
    exact (List.Perm.cons a (ei_perm h)).trans (List.Perm.swap e a _)
theorem sel_perm : ∀ {is : List Nat} {H A F : List Own}, sel is H = some (A, F) → H.Perm (A ++ F)
  | [], H, A, F, h => by simp only [sel, Option.some.injEq, Prod.mk.injEq] at h; obtain ⟨rfl, rfl⟩ := h; exact List.Perm.refl _
  | i :: is, H, A, F, h => by
    unfold sel at h
    split at h
    · rename_i e he
      split at h
      · rename_i A' F' hs
        simp only [Option.some.injEq, Prod.mk.injEq] at h
        obtain ⟨rfl, rfl⟩ := h
        exact (ei_perm he).trans (List.Perm.cons e (sel_perm hs))
      · cases h
    · cases h
def selA (is : List Nat) (H : List Own) : Option (List Own) := match sel is H with
  | some (A, _) => some A
  | none => none
theorem VS.sel (is : List Nat) {H A : List Own} {S : Seal} (h : selA is H = some A) : VS H S A S := by
  unfold selA at h
  split at h
  · rename_i A' F hs
    obtain rfl := Option.some.inj h
    exact (VS.perm (sel_perm hs)).trans VS.drop
  · cases h

theorem toK_mks {P : Program} {op : Op} {z bytes : Nat} {zero : List Value} {l c : Operand} (h : toK P op = .mks z bytes zero l c) :
    ∃ t e i v, op = .makeSlice t l c ∧ P.underlying t = some (.slice e) ∧ P.info? e = some i ∧ i.zero = some v ∧ v.cells.size ≠ 0 ∧ i.size = z ∧ i.bytes = bytes ∧ v.cells.toList = zero := by
  cases op
  case slice t x lo hi mx => cases mx <;> simp only [toK] at h <;> (repeat' split at h) <;> cases h
  case makeSlice t l' c' =>
    simp only [toK] at h
    split at h
    · rename_i e hu
      split at h
      · rename_i i hi
        split at h
        · rename_i v hz
          split at h
          · cases h
          · rename_i hne
            injection h with h1 h2 h3 h4 h5
            subst h4 h5
            exact ⟨t, e, i, v, rfl, hu, hi, hz, fun e => hne (Or.inl e), h1, h2, h3⟩
        · cases h
      · cases h
    · cases h
  all_goals (simp only [toK] at h; (try (repeat' split at h)) <;> cases h)
def madeL (zero : List Value) (n : Nat) : List Value := (List.range n).map fun i => zero.getD (i % zero.length) undef
theorem madeL_eq (a : Array Value) (n : Nat) (h : a.size ≠ 0) : (madeCells a n).toList = madeL a.toList n := by
  unfold madeCells madeL
  simp only [Array.toList_map, Array.toList_range]
  apply List.map_congr_left
  intro i hi
  have hlt : i % a.size < a.size := Nat.mod_lt _ (Nat.pos_of_ne_zero h)
  rw [getElem!_pos a (i % a.size) hlt]
  simp [List.getD_eq_getElem?_getD, hlt]
section
variable {P : Program} {N : Nat} {all : Array Oper} {r : List O} {o : O} {σ : Sl} {H : List Own} {S : Seal} {Q : Pst}
theorem t_mks {z bytes : Nat} {zero cs : List Value} {l c : Operand} {kl kc : IntKind} {n m : Int} (hk : o.k = .mks z bytes zero l c) (hw : wtd σ o.g = some true) (hl : ev σ l = some (.int kl n)) (hc : ev σ c = some (.int kc m)) (h0 : 0 ≤ n) (hle : n ≤ m) (hb : (bytes : Int) * m ≤ 281474976710656) (hm : m ≤ 9223372036854775807)
    (hcs : madeL zero (m.toNat * z) = cs) (h : ∀ b, Fr b H → S b = none → T P N all r (pt σ o.d (.slice (some ⟨b, 0, none⟩) n.toNat m.toNat)) (⟨b, cs, m.toNat * z⟩ :: H) S Q) : T P N all (o :: r) σ H S Q := by
  refine t_op (fun e => by rw [hk] at e; cases e) hw ?_
  intro p ts w K R hkp hd hlt hσ hH hK
  obtain ⟨dst, op, type, pos, after, guard⟩ := p
  rw [hk] at hkp
  obtain ⟨t, e, i, v, rfl, hu, hi, hz, hne, rfl, rfl, rfl⟩ := toK_mks hkp
  obtain ⟨f1, f2⟩ := hH.fresh (Nat.le_refl w.heap.size)
  obtain ⟨a1, a2⟩ := hH.alloc (madeCells v.cells (m.toNat * i.size)) e
  have hr := run_make (P := P) w t e i v hu hi hz kl kc n m h0 hle hb hm
  unfold Oper.wp
  have : (execOp (Act.eval ⟨ts, []⟩) ⟨dst, .makeSlice t l c, type, pos, after, guard⟩).run P w = .ok (.value (.slice (some ⟨w.heap.size, 0, none⟩) n.toNat m.toNat)) (w.alloc (.cells (madeCells v.cells (m.toNat * i.size)) e)) := by
    simp [execOp, ev_ok hσ hl, ev_ok hσ hc, hr]
  rw [this, Oper.upon_value, hd]
  rw [madeL_eq _ _ hne, hcs, size_madeCells] at a1 a2
  exact hK _ _ _ _ _ (hσ.pt (fun t ht => hlt t (by rw [hd]; exact ht)) []) a1 a2 (h _ (Fr.of f1) f2)
end
end Go.Proofs.YtobjaddicodiaaaDoorE
end

section
/- append. -/
namespace Go.Proofs.YtobjaddicodiaaaDoorE
open Go Go.RowKit
set_option linter.unusedVariables false
set_option linter.unusedSimpArgs false

theorem toK_app {P : Program} {op : Op} {e : TypeId} {z bytes : Nat} {zero : List Value} {x y : Operand} (h : toK P op = .app e z bytes zero x y) :
    ∃ (c : Call) (t u : TypeId) (i : TypeInfo) (v : Value), op = .call c ∧ c.callee = .builtin .append ∧ c.argTypes.toList = [t, u] ∧ c.args.toList = [x, y] ∧ P.underlying t = some (.slice e) ∧ P.underlying u = some (.slice e) ∧ P.info? e = some i ∧ i.zero = some v ∧ i.size ≠ 0 ∧ i.size = z ∧ i.bytes = bytes ∧ v.cells.toList = zero := by
  cases op
  case slice t x lo hi mx => cases mx <;> simp only [toK] at h <;> (repeat' split at h) <;> cases h
  case call c =>
    simp only [toK] at h
    split at h
    case h_4 hc =>
      split at h
      · rename_i t u x' y' h1 h2
        split at h
        · rename_i e1 e2 hu1 hu2
          split at h
          · rename_i i hi
            split at h
            · rename_i v hz
              split at h
              · cases h
              · rename_i hne
                split at h
                · rename_i he
                  subst he
                  injection h with g1 g2 g3 g4 g5 g6
                  subst g1 g5 g6
                  exact ⟨c, t, u, i, v, rfl, hc, h1, h2, hu1, hu2, hi, hz, hne, g2, g3, g4⟩
                · cases h
            · cases h
          · cases h
        · cases h
      · cases h
    all_goals ((repeat' split at h) <;> cases h)
  all_goals (simp only [toK] at h; (try (repeat' split at h)) <;> cases h)

theorem app_types {P : Program} {t u ty e : TypeId} (ht : P.underlying t = some (.slice e)) (hu : P.underlying u = some (.slice e)) {i : TypeInfo} (hi : P.info? e = some i) (a b : Value) (w : World) :
    (Builtin.append_ #[t, u] ty #[a, b]).run P w = (Builtin.append_ #[t, t] ty #[a, b]).run P w := by
  cases a <;> simp [Builtin.append_, run_underlying ht, run_underlying hu, sizeOf, typeInfo, hi]

theorem HOK.at0 {b N : Nat} {cs : List Value} {F : List Own} {S : Seal} {w : World} (h : HOK (⟨some b, cs, N⟩ :: F) S w) : (⟨some b, cs, N⟩ : Own).okAt b w := by
  rcases h.own ⟨some b, cs, N⟩ (by simp) with ⟨h0, _⟩ | ⟨b', h0, h⟩
  · cases h0
  · obtain rfl := Option.some.inj h0; exact h
theorem HOK.full {b N : Nat} {cs : List Value} {F : List Own} {S : Seal} {w : World} (h : HOK (⟨some b, cs, N⟩ :: F) S w) : ∃ l : List Value, l.length = N ∧ cs.length ≤ N ∧ l.take cs.length = cs ∧ HOK (⟨some b, l, N⟩ :: F) S w := by
  obtain ⟨arr, T, h1, h2, h3, h4⟩ := h.at0
  simp only at h1 h2 h3 h4
  refine ⟨arr.toList, by simpa using h2, h3, ?_, ⟨?_, by simpa [bs] using h.nd, ?_, h.seal_, fun b' hb' => ⟨fun hm => (h.pl_ b' hb').1 (by simpa [bs] using hm), (h.pl_ b' hb').2⟩⟩⟩
  · apply List.ext_getElem?
    intro i
    rw [List.getElem?_take]
    by_cases hi : i < cs.length
    · rw [if_pos hi]
      have : cs[i]? = some cs[i] := List.getElem?_eq_getElem hi
      rw [this]
      simpa using h4 i _ this
    · rw [if_neg hi, List.getElem?_eq_none (by omega)]
  · intro e he
    rcases List.mem_cons.1 he with rfl | he
    · exact Or.inr ⟨b, rfl, arr, T, h1, h2, by simp [h2], fun i v hv => by simpa using hv⟩
    · exact h.own e (by simp [he])
  · intro e he
    exact h.dis e (by simpa [bs] using he)
theorem HOK.pre {b N : Nat} {l cs : List Value} {F : List Own} {S : Seal} {w : World} (hp : ∀ (i : Nat) (v : Value), cs[i]? = some v → l[i]? = some v) (hl : cs.length ≤ N) (h : HOK (⟨some b, l, N⟩ :: F) S w) : HOK (⟨some b, cs, N⟩ :: F) S w := by
  obtain ⟨arr, T, h1, h2, h3, h4⟩ := h.at0
  simp only at h1 h2 h3 h4
  refine ⟨?_, by simpa [bs] using h.nd, ?_, h.seal_, fun b' hb' => ⟨fun hm => (h.pl_ b' hb').1 (by simpa [bs] using hm), (h.pl_ b' hb').2⟩⟩
  · intro e he
    rcases List.mem_cons.1 he with rfl | he
    · exact Or.inr ⟨b, rfl, arr, T, h1, h2, hl, fun i v hv => h4 i v (hp i v hv)⟩
    · exact h.own e (by simp [he])
  · intro e he
    exact h.dis e (by simpa [bs] using he)
theorem Step.names {H H' H2 H2' : List Own} {S S' : Seal} {w w' : World} (h : Step H S w H' S' w') (e1 : bs H = bs H2) (e2 : ∀ e ∈ H2', ∃ f ∈ H', f.b = e.b) : Step H2 S w H2' S' w' :=
  ⟨by rw [← e1]; exact h.ext, fun b he => by obtain ⟨e, he, hb⟩ := mem_bs.1 he; obtain ⟨f, hf, hf2⟩ := e2 e he; rw [← e1]; exact h.new b (mem_bs.2 ⟨f, hf, by rw [hf2, hb]⟩), by rw [← e1]; exact h.snew, h.sold, h.spl⟩

section
variable {P : Program} {N : Nat} {all : Array Oper} {r : List O} {o : O} {σ : Sl} {H : List Own} {S : Seal} {Q : Pst}

theorem run_app {dst : Option Tmp} {c : Call} {type : TypeId} {pos : String} {after : Array Edge} {guard : Option (Nat × Bool)} {t u : TypeId} {x y : Operand} {a b v : Value} {w w' : World} {ts : Array Value} (hc : c.callee = .builtin .append) (h1 : c.argTypes.toList = [t, u]) (h2 : c.args.toList = [x, y]) (hx : Act.eval ⟨ts, []⟩ x = a) (hy : Act.eval ⟨ts, []⟩ y = b)
    (hr : (Builtin.append_ #[t, u] type #[a, b]).run P w = .ok v w') : (execOp (Act.eval ⟨ts, []⟩) ⟨dst, .call c, type, pos, after, guard⟩).run P w = .ok (.value v) w' := by
  obtain ⟨callee, args, ats⟩ := c
  simp only at hc h1 h2
  subst hc
  have e1 : ats = #[t, u] := by apply Array.ext'; simpa using h1
  have e2 : args = #[x, y] := by apply Array.ext'; simpa using h2
  subst e1 e2
  simp [execOp, resolve, invoke, builtin, hx, hy, hr]

theorem HOK.drewW {H : List Own} {S : Seal} {w : World} (h : HOK H S w) : HOK H S w.drew := h.drew

/-- To nothing. -/
theorem t_app0 {e : TypeId} {z bytes b2 k2 m c : Nat} {zero news : List Value} {x y : Operand} (hk : o.k = .app e z bytes zero x y) (hw : wtd σ o.g = some true) (hx : ev σ x = some (.slice none 0 0)) (hy : ev σ y = some (.slice (some ⟨b2, k2, none⟩) m c))
    (hn : Rn H S b2 k2 (m * z) news) (h0 : 0 < m) (h63 : (m : Int) ≤ 9223372036854775807) (h48 : m * bytes ≤ 281474976710656) (hz : zero.length = z)
    (h : ∀ b n, Fr b H → S b = none → T P N all r (pt σ o.d (.slice (some ⟨b, 0, none⟩) m (n / z))) (⟨some b, news, n⟩ :: H) S Q) : T P N all (o :: r) σ H S Q := by
  refine t_op (fun e => by rw [hk] at e; cases e) hw ?_
  intro p ts w K R hkp hd hlt hσ hH hK
  obtain ⟨dst, op, type, pos, after, guard⟩ := p
  rw [hk] at hkp
  obtain ⟨cl_, t, u, i, v, rfl, hc, h1, h2, hu1, hu2, hi, hzz, hne, rfl, rfl, rfl⟩ := toK_app hkp
  obtain ⟨hl, hnews⟩ := hn.ok hH
  have hr := run_append_nil (P := P) w t type e i v hu1 hi hzz ⟨b2, k2, none⟩ m c news hl (fun j q hj => by rw [Addr.add_lit]; exact hnews j q hj) h0 h63 h48
  rw [← app_types hu1 hu2 hi] at hr
  have hge := grownCap_ge w m 0 e
  have hsz : v.cells.size = i.size := by simpa using hz
  obtain ⟨f1, f2⟩ := hH.drewW.fresh (Nat.le_refl w.drew.heap.size)
  obtain ⟨a1, a2⟩ := hH.drewW.alloc (news.toArray ++ Builtin.zeroCells v.cells (grownCap w m 0 e - m)) e
  have a3 := a2.drew (w := w)
  unfold Oper.wp
  rw [run_app hc h1 h2 (ev_ok hσ hx) (ev_ok hσ hy) hr, Oper.upon_value, hd]
  have esz : (news.toArray ++ Builtin.zeroCells v.cells (grownCap w m 0 e - m)).size = grownCap w m 0 e * i.size := by
    simp only [Array.size_append, List.size_toArray, size_zeroCells, hsz, hl, ← Nat.add_mul]
    congr 1
    omega
  have ecap : (news.toArray ++ Builtin.zeroCells v.cells (grownCap w m 0 e - m)).size / i.size = grownCap w m 0 e := by
    rw [esz]
    exact Nat.mul_div_cancel _ (Nat.pos_of_ne_zero hne)
  have hlen : news.length ≤ (news.toArray ++ Builtin.zeroCells v.cells (grownCap w m 0 e - m)).size := by simp
  have b1 := a1.pre (cs := news) (fun j q hj => by
    have hlt : j < news.length := (List.getElem?_eq_some_iff.1 hj).1
    have e1 : (news.toArray ++ Builtin.zeroCells v.cells (grownCap w m 0 e - m)).toList = news ++ (Builtin.zeroCells v.cells (grownCap w m 0 e - m)).toList := by simp
    rw [e1, List.getElem?_append_left hlt]
    exact hj) hlen
  have b2' := a3.names (H2 := H) (H2' := ⟨some w.heap.size, news, (news.toArray ++ Builtin.zeroCells v.cells (grownCap w m 0 e - m)).size⟩ :: H) rfl (fun q hq => by
    rcases List.mem_cons.1 hq with rfl | hq
    · exact ⟨_, List.mem_cons_self, rfl⟩
    · exact ⟨q, List.mem_cons_of_mem _ hq, rfl⟩)
  have hT := h w.heap.size (news.toArray ++ Builtin.zeroCells v.cells (grownCap w m 0 e - m)).size (Fr.of f1) f2
  rw [ecap] at hT
  exact hK _ _ _ _ _ (hσ.pt (fun t ht => hlt t (by rw [hd]; exact ht)) []) b1 b2' hT

/-- To what one owns, that begins at its block's beginning. -/
theorem t_app1 {e : TypeId} {z bytes b b2 k2 n m c cap M : Nat} {zero cs news : List Value} {F : List Own} {x y : Operand} (hk : o.k = .app e z bytes zero x y) (hw : wtd σ o.g = some true) (hx : ev σ x = some (.slice (some ⟨b, 0, none⟩) n cap)) (hy : ev σ y = some (.slice (some ⟨b2, k2, none⟩) m c))
    (hp : H.Perm ([⟨some b, cs, M⟩] ++ F)) (hn : Rn H S b2 k2 (m * z) news) (h1c : news.all (·.oneCell') = true) (hcs : cs.length = n * z) (hcap : M / z = cap) (h63 : ((n + m : Nat) : Int) ≤ 9223372036854775807) (h48 : (n + m) * bytes ≤ 140737488355328) (hz : zero.length = z)
    (h : ∀ b' M', T P N all r (pt σ o.d (.slice (some ⟨b', 0, none⟩) (n + m) (M' / z))) (⟨some b', cs ++ news, M'⟩ :: F) S Q) : T P N all (o :: r) σ H S Q := by
  refine t_op (fun e => by rw [hk] at e; cases e) hw ?_
  intro p ts w K R hkp hd hlt hσ hH hK
  obtain ⟨dst, op, type, pos, after, guard⟩ := p
  rw [hk] at hkp
  obtain ⟨cl_, t, u, i, v, rfl, hc, h1, h2, hu1, hu2, hi, hzz, hne, rfl, rfl, rfl⟩ := toK_app hkp
  obtain ⟨hl, hnews⟩ := hn.ok hH
  have hHp : HOK (⟨some b, cs, M⟩ :: F) S w := hH.perm hp
  have hpos : 0 < i.size := Nat.pos_of_ne_zero hne
  have hsz : v.cells.size = i.size := by simpa using hz
  by_cases hroom : n + m ≤ cap
  · obtain ⟨l, hlen, hle, htk, hF⟩ := hHp.full
    have hfit : cs.length + news.length ≤ l.length := by
      rw [hlen, hcs, hl, ← Nat.add_mul]
      refine Nat.le_trans (Nat.mul_le_mul_right _ hroom) ?_
      rw [← hcap]
      exact Nat.div_mul_le_self M i.size
    have hst : stH (⟨some b, l, M⟩ :: F) b cs.length news = some (⟨some b, l.take cs.length ++ news ++ l.drop (cs.length + news.length), M⟩ :: F) := by
      unfold stH
      rw [if_pos rfl]
      unfold stl
      rw [if_pos hfit]
    obtain ⟨w', hr, a1, a2⟩ := stH_ok (P := P) (fun v hv => List.all_eq_true.1 h1c v hv) hF hst
    have hfc := run_firstCells_some (P := P) w i.size m ⟨b2, k2, none⟩ m c news hl (fun j q hj => by rw [Addr.add_lit]; exact hnews j q hj)
    have hrun : (Builtin.append_ #[t, u] type #[.slice (some ⟨b, 0, none⟩) n cap, .slice (some ⟨b2, k2, none⟩) m c]).run P w = .ok (.slice (some ⟨b, 0, none⟩) (n + m) cap) w' := by
      rw [app_types hu1 hu2 hi]
      rw [hcs] at hr
      simp [Builtin.append_, run_underlying hu1, sizeOf, typeInfo, hi, Builtin.lenOf, hroom, hfc, Addr.add_lit, hr]
    unfold Oper.wp
    rw [run_app hc h1 h2 (ev_ok hσ hx) (ev_ok hσ hy) hrun, Oper.upon_value, hd]
    have b1 : HOK (⟨some b, cs ++ news, M⟩ :: F) S w' := by
      refine a1.pre (fun j q hj => ?_) ?_
      · rw [htk]
        have hlt : j < (cs ++ news).length := (List.getElem?_eq_some_iff.1 hj).1
        rw [List.getElem?_append_left hlt]
        exact hj
      · simp only [List.length_append]
        omega
    have b3 : Step H S w (⟨some b, cs ++ news, M⟩ :: F) S w' := by
      have g1 := a2.names (H2 := ⟨some b, cs, M⟩ :: F) (H2' := ⟨some b, cs ++ news, M⟩ :: F) rfl (fun q hq => by
        rcases List.mem_cons.1 hq with rfl | hq
        · exact ⟨_, List.mem_cons_self, rfl⟩
        · exact ⟨q, List.mem_cons_of_mem _ hq, rfl⟩)
      exact g1.perm hp.symm
    have hT := h b M
    rw [hcap] at hT
    exact hK _ _ _ _ _ (hσ.pt (fun t ht => hlt t (by rw [hd]; exact ht)) []) b1 b3 hT
  · have holds : ∀ j q, cs[j]? = some q → w.cell? ((⟨b, 0, none⟩ : Addr).add j) = some q := by
      intro j q hj
      obtain ⟨arr, T, g1, _, _, g2⟩ := hHp.at0
      simp only at g1 g2
      simp [World.cell?, Addr.add_lit, g1, g2 j q hj]
    have hr := run_append_grow (P := P) w t type e i v hu1 hi hzz ⟨b, 0, none⟩ n cap cs hcs holds ⟨b2, k2, none⟩ m c news hl (fun j q hj => by rw [Addr.add_lit]; exact hnews j q hj) (by omega) h63 (growslice_fits (by omega) h48)
    rw [← app_types hu1 hu2 hi] at hr
    have hge := grownCap_ge w (n + m) cap e
    obtain ⟨a1, a2⟩ := hH.drewW.alloc (cs.toArray ++ news.toArray ++ Builtin.zeroCells v.cells (grownCap w (n + m) cap e - (n + m))) e
    have a3 := a2.drew (w := w)
    unfold Oper.wp
    rw [run_app hc h1 h2 (ev_ok hσ hx) (ev_ok hσ hy) hr, Oper.upon_value, hd]
    have esz : (cs.toArray ++ news.toArray ++ Builtin.zeroCells v.cells (grownCap w (n + m) cap e - (n + m))).size = grownCap w (n + m) cap e * i.size := by
      simp only [Array.size_append, List.size_toArray, size_zeroCells, hsz, hcs, hl, ← Nat.add_mul]
      congr 1
      omega
    have ecap : (cs.toArray ++ news.toArray ++ Builtin.zeroCells v.cells (grownCap w (n + m) cap e - (n + m))).size / i.size = grownCap w (n + m) cap e := by
      rw [esz]
      exact Nat.mul_div_cancel _ hpos
    have hlen : (cs ++ news).length ≤ (cs.toArray ++ news.toArray ++ Builtin.zeroCells v.cells (grownCap w (n + m) cap e - (n + m))).size := by simp
    have hp2 : (⟨some w.heap.size, (cs.toArray ++ news.toArray ++ Builtin.zeroCells v.cells (grownCap w (n + m) cap e - (n + m))).toList, (cs.toArray ++ news.toArray ++ Builtin.zeroCells v.cells (grownCap w (n + m) cap e - (n + m))).size⟩ :: H : List Own).Perm ((⟨some w.heap.size, (cs.toArray ++ news.toArray ++ Builtin.zeroCells v.cells (grownCap w (n + m) cap e - (n + m))).toList, (cs.toArray ++ news.toArray ++ Builtin.zeroCells v.cells (grownCap w (n + m) cap e - (n + m))).size⟩ :: F) ++ [⟨some b, cs, M⟩]) :=
      List.Perm.cons _ (hp.trans List.perm_append_comm)
    have a4 := (a1.perm hp2).drop
    have b1 := a4.pre (cs := cs ++ news) (fun j q hj => by
      have hlt : j < (cs ++ news).length := (List.getElem?_eq_some_iff.1 hj).1
      have e1 : (cs.toArray ++ news.toArray ++ Builtin.zeroCells v.cells (grownCap w (n + m) cap e - (n + m))).toList = (cs ++ news) ++ (Builtin.zeroCells v.cells (grownCap w (n + m) cap e - (n + m))).toList := by simp
      rw [e1, List.getElem?_append_left hlt]
      exact hj) hlen
    have b3 := a3.names (H2 := H) (H2' := ⟨some w.heap.size, cs ++ news, (cs.toArray ++ news.toArray ++ Builtin.zeroCells v.cells (grownCap w (n + m) cap e - (n + m))).size⟩ :: F) rfl (fun q hq => by
      rcases List.mem_cons.1 hq with rfl | hq
      · exact ⟨_, List.mem_cons_self, rfl⟩
      · exact ⟨q, List.mem_cons_of_mem _ (hp.mem_iff.2 (by simp [hq])), rfl⟩)
    have hT := h w.heap.size (cs.toArray ++ news.toArray ++ Builtin.zeroCells v.cells (grownCap w (n + m) cap e - (n + m))).size
    rw [ecap] at hT
    exact hK _ _ _ _ _ (hσ.pt (fun t ht => hlt t (by rw [hd]; exact ht)) []) b1 b3 hT
end
end Go.Proofs.YtobjaddicodiaaaDoorE
end

section
/- A region that draws its order, by its states: from each set of operations that have been, each one that may come next. -/
namespace Go.Proofs.YtobjaddicodiaaaDoorE
open Go Go.RowKit
set_option linter.unusedVariables false
set_option linter.unusedSimpArgs false

def rdyL (ds : List (List Nat)) (A : List Bool) : List Nat := (List.range ds.length).filter fun i => !(A.getD i false) && (ds.getD i []).all fun e => A.getD e false
def AllR (p : Nat → Prop) : List Nat → Prop
  | [] => True
  | i :: r => p i ∧ AllR p r
theorem AllR.mem {p : Nat → Prop} : ∀ {l : List Nat} {i : Nat}, AllR p l → i ∈ l → p i
  | a :: r, i, h, hi => by
    rcases List.mem_cons.1 hi with rfl | hi
    · exact h.1
    · exact AllR.mem h.2 hi
def exN (R : Exit → Act → World → Prop) (K : Act → World → Prop) : Exit → Act → World → Prop
  | .normal, a, w => K a w
  | e, a, w => R e a w
theorem upon_ex {P : Program} {o : Oper} {a : Act} {w : World} {R : Exit → Act → World → Prop} {K K2 : Act → World → Prop} (h : o.wp P a w K2 (exN R K)) : o.wp P a w K2 R := by
  unfold Oper.wp at *
  generalize (execOp a.eval o).run P w = r at *
  cases r with
  | ok n w' =>
    cases n with
    | enter f args =>
      rw [Oper.upon_enter] at h ⊢
      refine h.mono ?_
      intro e w2 h2
      cases e <;> exact h2
    | _ => exact h
  | halt x w' =>
    cases x <;> exact h

section
variable {P : Program} {N : Nat} {σ : Sl} {H : List Own} {S : Seal}
theorem one_op {ops : Array Oper} {R : Exit → Act → World → Prop} {K : Act → World → Prop} {i : Nat} {p : Oper} {σ1 : Sl} {H1 : List Own} {M : Pst} {ts : Array Value} {w : World} (hp : ops[i]? = some p) (hT : T P N ops [toO P N ops p] σ1 H1 S M) (hσ : SlOK σ1 ts) (hN : ts.size = N) (hH : HOK H1 S w)
    (hK : ∀ σ' H' S' ts' w', M σ' H' S' → SlOK σ' ts' → ts'.size = N → HOK H' S' w' → Step H1 S w H' S' w' → K ⟨ts', []⟩ w') : wpOp P ops R i K ⟨ts, []⟩ w := by
  have h := hT [p] rfl ts w (exN R K) hσ hN hH hK
  unfold wpOp
  rw [hp]
  simp only
  unfold wpList at h
  split at h
  · rename_i hw
    rw [if_pos hw]
    rcases h with h | ⟨h1, a2, w2, h2⟩
    · exact Or.inl (Oper.wp_mono (fun a w h => h) (upon_ex h))
    · exact Or.inr ⟨h1, a2, w2, h2⟩
  · rename_i hw
    rw [if_neg hw]
    exact h

theorem w_game {Q : Qst} {L : List O} {ds : List (List Nat)} (hmix : P.follows .mixedOrders = true)
    (hG : ∀ (all : Array Oper) (G : List Bool → Sl → List Own → Prop), (∀ A σ H, A.all id = true → Q .nrm σ H S → G A σ H) →
      (∀ (is : List Nat) A σ H, rdyL ds A = is → is ≠ [] → AllR (fun i => T P N all [L.getD i ⟨none, .fail, none⟩] σ H S fun σ' H' S' => G (A.set i true) σ' H' ∧ S' = S) is → G A σ H) →
      G (List.replicate ds.length false) σ H) : W P N (.drw L ds) σ H S Q := by
  intro code hc ts0 w0 R hσ hN hH hR
  cases code <;> (try simp only [toC] at hc) <;> (try cases hc; done)
  case region id ops dr =>
    cases dr with
    | false => simp [toC] at hc
    | true =>
    simp only [toC] at hc
    injection hc with e1 e2
    subst e1 e2
    refine wp_region_any hmix ?_
    have lstA : ∀ (listed : Array Bool) (j : Nat), lst listed j = listed.toList.getD j false := fun listed j => by
      unfold lst
      simp [Array.getD_eq_getD_getElem?, List.getD_eq_getElem?_getD]
    have main := hG ops (fun A σ1 H1 => ∀ (fuel : Nat) (listed : Array Bool) (ts : Array Value) (w : World), listed.size = ops.size → listed.toList = A → A.count false ≤ fuel → SlOK σ1 ts → ts.size = N → HOK H1 S w → Step H S w0 H1 S w → wpAny P .any ops R fuel listed ⟨ts, []⟩ w) ?_ ?_
    · refine main ops.size (Array.replicate ops.size false) ts0 _ (by simp) (by simp) (by simp) hσ hN hH.drew (Step.refl H S w0).drew'
    · intro A σ1 H1 hA hQ fuel listed ts w hs hl hf hσ1 hN1 hH1 hst
      have hall : ∀ i, i < ops.size → lst listed i = true := by
        intro i hi
        rw [lstA, hl]
        have hlen : i < A.length := by rw [← hl]; simpa [hs] using hi
        have := List.all_eq_true.1 hA A[i] (List.getElem_mem hlen)
        simpa [List.getD_eq_getElem?_getD, hlen] using this
      have hr : Region.ready .any ops listed = [] := by
        refine List.eq_nil_iff_forall_not_mem.2 fun i hi => ?_
        obtain ⟨h1, h2, _⟩ := (ready_iff hs).1 hi
        rw [hall i h1] at h2; cases h2
      have hn : R .normal ⟨ts, []⟩ w := hR .nrm σ1 H1 S ts w hQ hσ1 hN1 hH1 hst
      cases fuel with
      | zero => exact ⟨hr, hn⟩
      | succ fuel => exact ⟨fun _ => hn, fun i hi => by rw [hr] at hi; cases hi⟩
    · intro is A σ1 H1 hrd hne hall fuel listed ts w hs hl hf hσ1 hN1 hH1 hst
      have hrdy : ∀ i, i ∈ Region.ready .any ops listed ↔ i ∈ is := by
        intro i
        rw [ready_iff hs, ← hrd]
        unfold rdyL
        simp only [List.mem_filter, List.mem_range, Bool.and_eq_true, Bool.not_eq_true', List.all_eq_true, List.length_map, Array.length_toList, ← hl, ← lstA]
      obtain ⟨i0, hi0⟩ : ∃ i, i ∈ is := by
        cases is with
        | nil => exact absurd rfl hne
        | cons a r => exact ⟨a, List.mem_cons_self⟩
      have hcnt : ∀ i, i ∈ is → A.count false = (A.set i true).count false + 1 := by
        intro i hi
        obtain ⟨h1, h2, _⟩ := (ready_iff hs).1 ((hrdy i).2 hi)
        have hlen : i < A.length := by rw [← hl]; simpa [hs] using h1
        have hfalse : A[i] = false := by
          have := h2
          rw [lstA, hl] at this
          simpa [List.getD_eq_getElem?_getD, hlen] using this
        have hpos : 0 < A.count false := List.count_pos_iff.2 (hfalse ▸ List.getElem_mem hlen)
        rw [List.count_set hlen, hfalse]
        simp
        omega
      cases fuel with
      | zero =>
        have := hcnt i0 hi0
        omega
      | succ fuel =>
        refine ⟨fun hr => ?_, fun i hi => ?_⟩
        · have := (hrdy i0).2 hi0
          rw [hr] at this; cases this
        · have hi' := (hrdy i).1 hi
          obtain ⟨h1, h2, _⟩ := (ready_iff hs).1 hi
          have hp : ops[i]? = some ops[i] := Array.getElem?_eq_getElem h1
          have hT := hall.mem hi'
          have hget : (ops.toList.map (toO P N ops)).getD i ⟨none, .fail, none⟩ = toO P N ops ops[i] := by
            simp [List.getD_eq_getElem?_getD, h1]
          rw [hget] at hT
          refine one_op hp hT hσ1 hN1 hH1 ?_
          rintro σ' H' S' ts' w' ⟨q, rfl⟩ a1 a2 a3 st
          have := hcnt i hi'
          exact q fuel _ ts' w' (by simpa using hs) (by simp [Array.toList_setIfInBounds, hl]) (by omega) a1 a2 a3 (hst.trans st)
end
end Go.Proofs.YtobjaddicodiaaaDoorE
end

section
/- A quiet operation first. -/
namespace Go.Proofs.YtobjaddicodiaaaDoorE
open Go Go.RowKit
set_option linter.unusedVariables false
set_option linter.unusedSimpArgs false
set_option linter.unnecessarySimpa false

theorem mem_opT {t : Nat} {x : Operand} (h : Operand.tmp t = x) : t ∈ opT x := by subst h; simp [opT]
theorem mem_opsT {t : Nat} {xs : List Operand} (h : Operand.tmp t ∈ xs) : t ∈ opsT xs := by
  unfold opsT
  exact List.mem_flatMap.2 ⟨_, h, mem_opT rfl⟩
theorem mem_oopT {t : Nat} {x : Option Operand} (h : some (Operand.tmp t) = x) : t ∈ oopT x := by subst h; simp [oopT, opT]
theorem mem_pT {t : Nat} {ps : List (Nat × Nat × Operand)} (h : Operand.tmp t ∈ ps.map (·.2.2)) : t ∈ pT ps := by
  unfold pT
  obtain ⟨p, hp, he⟩ := List.mem_map.1 h
  exact List.mem_flatMap.2 ⟨p, hp, mem_opT he.symm⟩
theorem places_mem {P : Program} {fs : Array Field} : ∀ {l : List (Nat × Operand)} {ps : List (Nat × Nat × Operand)}, placesT P fs l = some ps → ps.map (·.2.2) = l.map (·.2)
  | [], ps, h => by simp only [placesT, Option.some.injEq] at h; subst h; rfl
  | (i, x) :: r, ps, h => by
    unfold placesT at h
    split at h
    · rename_i f l hf hl
      split at h
      · obtain rfl := Option.some.inj h
        simp [places_mem hl]
      · cases h
    · cases h

theorem looks_sub {P : Program} {op : Op} {t : Nat} {k : K} (hk : toK P op = k) (hf : k ≠ .fail) (hl : ∀ n, k ≠ .lnc n) (h : Operand.tmp t ∈ op.operands.toList) : t ∈ kT k := by
  cases op
  case slice ty x lo hi mx =>
    cases mx with
    | some y => simp only [toK] at hk; exact absurd hk.symm hf
    | none =>
      simp only [toK] at hk
      simp only [Op.operands, Array.toList_append, List.mem_append, List.mem_singleton, Option.mem_toList, Option.toList_toArray] at h
      (repeat' split at hk) <;> subst hk <;> first
        | exact absurd rfl hf
        | (simp only [kT, List.mem_append]
           rcases h with ((h | h) | h) | h
           · exact Or.inl (Or.inl (mem_opT h))
           · exact Or.inl (Or.inr (mem_oopT (by simpa [eq_comm] using h)))
           · exact Or.inr (mem_oopT (by simpa [eq_comm] using h))
           · simp at h)
  case build ty parts =>
    simp only [toK] at hk
    simp only [Op.operands] at h
    split at hk
    · split at hk
      · rename_i ps hps
        split at hk
        · subst hk
          simp only [kT]
          refine mem_pT ?_
          rw [places_mem hps]
          simpa using h
        · exact absurd hk.symm hf
      · exact absurd hk.symm hf
    · split at hk
      · subst hk
        simp only [kT]
        refine mem_pT ?_
        simpa using h
      · exact absurd hk.symm hf
    · exact absurd hk.symm hf
  case buildSlice ty n parts =>
    simp only [toK] at hk
    simp only [Op.operands] at h
    (repeat' split at hk) <;> subst hk <;> first
      | exact absurd rfl hf
      | (simp only [kT]
         refine mem_pT ?_
         simpa using h)
  case makeFunc fn first caps =>
    simp only [toK] at hk
    simp only [Op.operands, Array.toList_append, List.mem_append] at h
    (repeat' split at hk) <;> subst hk <;> first
      | exact absurd rfl hf
      | (rename_i hz
         have : first.toList = [] := by
           apply List.eq_nil_of_length_eq_zero
           simpa using hz
         rw [this] at h
         simp only [kT]
         refine mem_opsT ?_
         simpa using h)
  case call c =>
    simp only [toK] at hk
    simp only [Op.operands, Call.operands, Array.toList_append, List.mem_append] at h
    obtain ⟨callee, args, ats⟩ := c
    simp only at hk h
    have key : ∀ {xs : List Operand}, args.toList = xs → callee.casesOn (motive := fun _ => Prop) (fun f => f = f) (fun _ _ => True) (fun _ => True) → True := fun _ _ => trivial
    cases callee with
    | value f =>
      cases f <;> (simp only at hk) <;> ((repeat' split at hk) <;> subst hk <;> first
        | exact absurd rfl hf
        | (simp only [kT, List.mem_append]
           rcases h with h | h
           · simp at h
           · exact mem_opsT h)
        | (simp only [kT, List.mem_append]
           rcases h with h | h
           · exact Or.inl (mem_opT (by simpa using h))
           · exact Or.inr (mem_opsT h))
        | (simp at h))
    | invoke r m => (simp only at hk); exact absurd hk.symm hf
    | builtin b =>
      cases b <;> (simp only at hk) <;> ((repeat' split at hk) <;> subst hk <;> first
        | exact absurd rfl hf
        | exact absurd rfl (hl _)
        | (simp only [kT]
           rcases h with h | h
           · simp at h
           · exact mem_opsT h)
        | (rename_i h1 h2 _ _ _ _
           rcases h with h | h
           · simp at h
           · simp_all [kT, opT])
        | (rcases h with h | h
           · simp at h
           · simp_all [kT]
             first
               | exact mem_opT h
               | exact h.imp mem_opT mem_opT))
  all_goals simp only [toK] at hk
  all_goals (try simp only [Op.operands, List.mem_cons, List.not_mem_nil, or_false, false_or] at h)
  all_goals
    (repeat' split at hk) <;> subst hk <;> first
      | exact absurd rfl hf
      | (simp only [kT, List.mem_append]; exact mem_opT h)
      | (simp only [kT, List.mem_append]; exact h.imp mem_opT mem_opT)
      | (simp only [kT, List.mem_append]
         rcases h with h | h | h
         · exact Or.inl (Or.inl (mem_opT h))
         · exact Or.inl (Or.inr (mem_opT h))
         · exact Or.inr (mem_opT h))
      | (simp at h)

def okK : K → Bool
  | .fail => false
  | .lnc _ => false
  | _ => true
theorem okK_ne {k : K} (h : okK k = true) : k ≠ .fail ∧ ∀ n, k ≠ .lnc n := ⟨fun e => (by subst e; cases h), fun n e => (by subst e; cases h)⟩

theorem looks_oT {P : Program} {N : Nat} {ops : Array Oper} {o : Oper} {t : Nat} (hk : okK (toO P N ops o).k = true) (h : t ∈ o.looksAt ops) : t ∈ oT (toO P N ops o) := by
  obtain ⟨h1, h2⟩ := okK_ne hk
  obtain ⟨e1, _⟩ := toO_k h1
  unfold Oper.looksAt at h
  unfold oT
  rw [List.mem_append] at h ⊢
  rcases h with h | h
  · refine Or.inr ?_
    rw [e1] at h1 h2 ⊢
    refine looks_sub rfl h1 h2 ?_
    obtain ⟨x, hx, he⟩ := List.mem_filterMap.1 h
    cases x <;> simp at he
    subst he
    exact hx
  · refine Or.inl ?_
    unfold toO at h1 ⊢
    cases hg : o.guard with
    | none => rw [hg] at h; simp at h
    | some p =>
      obtain ⟨j, b⟩ := p
      rw [hg] at h h1
      simp only at h h1 ⊢
      cases hb : (ops[j]?).bind (·.dst) with
      | none => rw [hb] at h; simp at h
      | some d =>
        rw [hb] at h
        simp at h
        simp [h]
theorem apart_of {P : Program} {N : Nat} {ops : Array Oper} {x y : Oper} (hx : okK (toO P N ops x).k = true) (hy : okK (toO P N ops y).k = true) (h : apartO (toO P N ops x) (toO P N ops y) = true) : x.apart ops y = true := by
  obtain ⟨h1, h2⟩ := apartO_spec h
  rw [toO_d] at h1 h2
  rw [toO_d] at h1
  unfold Oper.apart
  rw [Bool.and_eq_true]
  constructor
  · cases hd : x.dst with
    | none => rfl
    | some d =>
      obtain ⟨a1, a2⟩ := h1 d hd
      simp only [Bool.and_eq_true, Bool.not_eq_true', List.contains_eq_mem, decide_eq_false_iff_not, bne_iff_ne]
      exact ⟨fun hm => a1 (looks_oT hy hm), a2⟩
  · cases hd : y.dst with
    | none => rfl
    | some d =>
      simp only [Bool.not_eq_true', List.contains_eq_mem, decide_eq_false_iff_not]
      exact fun hm => h2 d hd (looks_oT hx hm)

def noP (R : Exit → Act → World → Prop) : Exit → Act → World → Prop
  | .panic _, _, _ => False
  | e, a, w => R e a w
theorem wp_noP {P : Program} {o : Oper} {a : Act} {w : World} {R : Exit → Act → World → Prop} {K : Act → World → Prop} (h : o.wp P a w K (noP R)) : o.wp P a w K R := by
  unfold Oper.wp at *
  generalize (execOp a.eval o).run P w = r at *
  cases r with
  | ok n w' =>
    cases n with
    | enter f args =>
      rw [Oper.upon_enter] at h ⊢
      refine h.mono ?_
      intro e w2 h2
      cases e with
      | panicked c => exact h2.elim
      | _ => exact h2
    | _ => exact h
  | halt x w' =>
    cases x <;> first | exact h | exact (h : False).elim
theorem any_noP {P : Program} {ops : Array Oper} {R : Exit → Act → World → Prop} : ∀ (fuel : Nat) (listed : Array Bool) (a : Act) (w : World), wpAny P .any ops (noP R) fuel listed a w → wpAny P .any ops R fuel listed a w
  | 0, _, _, _, h => h
  | fuel + 1, listed, a, w, h => by
    refine ⟨h.1, fun i hi => ?_⟩
    have h2 := h.2 i hi
    unfold wpOp at h2 ⊢
    split
    · rename_i hn
      rw [hn] at h2
      exact any_noP fuel _ _ _ h2
    · rename_i o ho
      rw [ho] at h2
      simp only at h2
      split
      · rename_i hw
        rw [if_pos hw] at h2
        exact h2.imp (fun h => Oper.wp_mono (fun a w h => any_noP fuel _ _ _ h) (wp_noP h)) id
      · rename_i hw
        rw [if_neg hw] at h2
        exact any_noP fuel _ _ _ h2

def qOK (L : List O) (ds : List (List Nat)) (A : List Bool) (i : Nat) : Bool :=
  (rdyL ds A).contains i && (List.range L.length).all fun j => j == i || A.getD j true || (ds.getD j []).contains i || apartO (L.getD i ⟨none, .fail, none⟩) (L.getD j ⟨none, .fail, none⟩)

section
variable {P : Program} {N : Nat} {σ : Sl} {H : List Own} {S : Seal}
theorem w_gameQ {Q : Qst} {L : List O} {ds : List (List Nat)} (hmix : P.follows .mixedOrders = true) (hok : L.all (fun o => okK o.k) = true)
    (hG : ∀ (all : Array Oper) (G : List Bool → Sl → List Own → Prop), (∀ A σ H, A.all id = true → Q .nrm σ H S → G A σ H) →
      (∀ (is : List Nat) A σ H, rdyL ds A = is → is ≠ [] → AllR (fun i => T P N all [L.getD i ⟨none, .fail, none⟩] σ H S fun σ' H' S' => G (A.set i true) σ' H' ∧ S' = S) is → G A σ H) →
      (∀ (i : Nat) (ks : List Nat) A σ H σ', qOK L ds A i = true → kpo ks (qz [] noS 1 [L.getD i ⟨none, .fail, none⟩] σ) = some σ' → G (A.set i true) σ' H → G A σ H) →
      G (List.replicate ds.length false) σ H) : W P N (.drw L ds) σ H S Q := by
  intro code hc ts0 w0 R hσ hN hH hR
  cases code <;> (try simp only [toC] at hc) <;> (try cases hc; done)
  case region id ops dr =>
    cases dr with
    | false => simp [toC] at hc
    | true =>
    simp only [toC] at hc
    injection hc with e1 e2
    subst e1 e2
    refine wp_region_any hmix (any_noP _ _ _ _ ?_)
    have lstA : ∀ (listed : Array Bool) (j : Nat), lst listed j = listed.toList.getD j false := fun listed j => by
      unfold lst
      simp [Array.getD_eq_getD_getElem?, List.getD_eq_getElem?_getD]
    have hget : ∀ (i : Nat) (h : i < ops.size), (ops.toList.map (toO P N ops)).getD i ⟨none, .fail, none⟩ = toO P N ops ops[i] := fun i h => by
      simp [List.getD_eq_getElem?_getD, h]
    have hokO : ∀ (i : Nat) (h : i < ops.size), okK (toO P N ops ops[i]).k = true := fun i h => by
      refine List.all_eq_true.1 hok _ ?_
      exact List.mem_map.2 ⟨ops[i], by simp, rfl⟩
    have hcnt : ∀ {A : List Bool} {listed : Array Bool} (hs : listed.size = ops.size) (hl : listed.toList = A) (i : Nat), i ∈ Region.ready .any ops listed → A.count false = (A.set i true).count false + 1 := by
      intro A listed hs hl i hi
      obtain ⟨h1, h2, _⟩ := (ready_iff hs).1 hi
      have hlen : i < A.length := by rw [← hl]; simpa [hs] using h1
      have hfalse : A[i] = false := by
        have := h2
        rw [lstA, hl] at this
        simpa [List.getD_eq_getElem?_getD, hlen] using this
      have hpos : 0 < A.count false := List.count_pos_iff.2 (hfalse ▸ List.getElem_mem hlen)
      rw [List.count_set hlen, hfalse]
      simp
      omega
    have hrdy : ∀ {A : List Bool} {listed : Array Bool} (hs : listed.size = ops.size) (hl : listed.toList = A) (i : Nat), i ∈ Region.ready .any ops listed ↔ i ∈ rdyL (ops.toList.map depsOf) A := by
      intro A listed hs hl i
      rw [ready_iff hs]
      unfold rdyL
      simp only [List.mem_filter, List.mem_range, Bool.and_eq_true, Bool.not_eq_true', List.all_eq_true, List.length_map, Array.length_toList, ← hl, ← lstA]
    have main := hG ops (fun A σ1 H1 => ∀ (fuel : Nat) (listed : Array Bool) (ts : Array Value) (w : World), listed.size = ops.size → listed.toList = A → A.count false ≤ fuel → SlOK σ1 ts → ts.size = N → HOK H1 S w → Step H S w0 H1 S w → wpAny P .any ops (noP R) fuel listed ⟨ts, []⟩ w) ?_ ?_ ?_
    · refine main ops.size (Array.replicate ops.size false) ts0 _ (by simp) (by simp) (by simp) hσ hN hH.drew (Step.refl H S w0).drew'
    · intro A σ1 H1 hA hQ fuel listed ts w hs hl hf hσ1 hN1 hH1 hst
      have hall : ∀ i, i < ops.size → lst listed i = true := by
        intro i hi
        rw [lstA, hl]
        have hlen : i < A.length := by rw [← hl]; simpa [hs] using hi
        have := List.all_eq_true.1 hA A[i] (List.getElem_mem hlen)
        simpa [List.getD_eq_getElem?_getD, hlen] using this
      have hr : Region.ready .any ops listed = [] := by
        refine List.eq_nil_iff_forall_not_mem.2 fun i hi => ?_
        obtain ⟨h1, h2, _⟩ := (ready_iff hs).1 hi
        rw [hall i h1] at h2; cases h2
      have hn : noP R .normal ⟨ts, []⟩ w := hR .nrm σ1 H1 S ts w hQ hσ1 hN1 hH1 hst
      cases fuel with
      | zero => exact ⟨hr, hn⟩
      | succ fuel => exact ⟨fun _ => hn, fun i hi => by rw [hr] at hi; cases hi⟩
    · intro is A σ1 H1 hrd hne hall fuel listed ts w hs hl hf hσ1 hN1 hH1 hst
      have hrdy' : ∀ i, i ∈ Region.ready .any ops listed ↔ i ∈ is := fun i => by rw [hrdy hs hl, hrd]
      obtain ⟨i0, hi0⟩ : ∃ i, i ∈ is := by
        cases is with
        | nil => exact absurd rfl hne
        | cons a r => exact ⟨a, List.mem_cons_self⟩
      cases fuel with
      | zero =>
        have := hcnt hs hl i0 ((hrdy' i0).2 hi0)
        omega
      | succ fuel =>
        refine ⟨fun hr => ?_, fun i hi => ?_⟩
        · have := (hrdy' i0).2 hi0
          rw [hr] at this; cases this
        · have hi' := (hrdy' i).1 hi
          obtain ⟨h1, h2, _⟩ := (ready_iff hs).1 hi
          have hp : ops[i]? = some ops[i] := Array.getElem?_eq_getElem h1
          have hT := hall.mem hi'
          rw [hget i h1] at hT
          refine one_op hp hT hσ1 hN1 hH1 ?_
          rintro σ' H' S' ts' w' ⟨q, rfl⟩ a1 a2 a3 st
          have := hcnt hs hl i hi
          exact q fuel _ ts' w' (by simpa using hs) (by simp [Array.toList_setIfInBounds, hl]) (by omega) a1 a2 a3 (hst.trans st)
    · intro i ks A σ1 H1 σ2 hq hz hg fuel listed ts w hs hl hf hσ1 hN1 hH1 hst
      unfold qOK at hq
      simp only [Bool.and_eq_true, List.contains_eq_mem, decide_eq_true_eq, List.all_eq_true, List.mem_range, Bool.or_eq_true, beq_iff_eq, List.length_map, Array.length_toList] at hq
      obtain ⟨hir, hfree⟩ := hq
      have hi := (hrdy hs hl i).2 hir
      obtain ⟨h1, h2, _⟩ := (ready_iff hs).1 hi
      have hp : ops[i]? = some ops[i] := Array.getElem?_eq_getElem h1
      rw [hget i h1] at hz
      have hoki := hokO i h1
      obtain ⟨kf, kl⟩ := okK_ne hoki
      obtain ⟨ek, hdN⟩ := toO_k kf
      cases fuel with
      | zero =>
        have := hcnt hs hl i hi
        omega
      | succ fuel =>
        have hsel : ∀ (j : Nat) (o : Oper) cs b, ops[j]? = some o → o.op ≠ .select cs b := by
          intro j o cs b hj he
          obtain ⟨hjl, hje⟩ := Array.getElem?_eq_some_iff.1 hj
          have h3 := hokO j hjl
          rw [hje] at h3
          obtain ⟨k1, k2⟩ := okK_ne h3
          have := (toO_k k1).1
          rw [this, he] at k1
          exact k1 rfl
        have free : ∀ j oj, ops[j]? = some oj → j ≠ i → listed.getD j true = false → (∀ e ∈ oj.after, Region.binds .any e = true → e.on ≠ i) → (ops[i]).apart ops oj = true := by
          intro j oj hj hji hun hno
          obtain ⟨hjl, hje⟩ := Array.getElem?_eq_some_iff.1 hj
          have h3 := hokO j hjl
          rcases hfree j hjl with ((h4 | h4) | h4) | h4
          · exact absurd h4 hji
          · rw [← hl] at h4
            have : listed.getD j true = true := by
              simpa [Array.getD_eq_getD_getElem?, List.getD_eq_getElem?_getD] using h4
            rw [this] at hun; cases hun
          · exfalso
            simp only [List.getD_eq_getElem?_getD, List.getElem?_map, Array.getElem?_toList, hj, Option.map_some, Option.getD_some, depsOf, List.mem_map, List.mem_filter, Array.mem_toList_iff] at h4
            obtain ⟨e, ⟨he1, he2⟩, he3⟩ := h4
            exact hno e he1 he2 he3
          · rw [hget i h1, hget j hjl, hje] at h4
            rw [hje] at h3
            exact apart_of hoki h3 h4
        have fin : ∀ v, Yields P ops ops[i] v ⟨ts, []⟩ → SlOK σ2 (Act.put ⟨ts, []⟩ (ops[i]).dst v).tmps → wpAny P .any ops (noP R) (fuel + 1) listed ⟨ts, []⟩ w := by
          intro v hy hsl
          refine wpAny_first (Q := noP R) (v := v) hp hsel (fun c a w h => h) fuel listed _ w free hi hy ?_
          rw [put_form]
          have := hcnt hs hl i hi
          exact hg fuel _ _ w (by simpa using hs) (by simp [Array.toList_setIfInBounds, hl]) (by omega) hsl (by rw [put_size]; exact hN1) hH1 hst
        have hd : (toO P N ops ops[i]).d = (ops[i]).dst := toO_d
        cases hw : wtd σ1 (toO P N ops ops[i]).g with
        | none => simp [qz, hw, kpo] at hz
        | some b =>
          have hwant := toO_w (P := P) (N := N) (all := ops) (o := ops[i]) hσ1 hw kf
          cases b with
          | true =>
            cases hv : qv [] noS σ1 (toO P N ops ops[i]).k with
            | none => simp [qz, hw, hv, kpo] at hz
            | some v =>
              simp only [qz, hw, hv, kpo, Option.some.injEq] at hz
              subst hz
              refine fin v (Or.inl ⟨hwant, fun w => ?_⟩) ?_
              · rw [ek] at hv
                exact quiet (df := []) hσ1 (hok0 w) hv
              · rw [hd]
                exact (hσ1.pt (fun t ht => by rw [hN1]; exact hdN t ht) []).keep ks
          | false =>
            simp only [qz, hw] at hz
            split at hz
            · simp [kpo] at hz
            · simp only [kpo, Option.some.injEq] at hz
              subst hz
              refine fin undef (Or.inr ⟨hwant, rfl⟩) ?_
              rw [hd]
              exact (hσ1.pt (fun t ht => by rw [hN1]; exact hdN t ht) []).keep ks
end
end Go.Proofs.YtobjaddicodiaaaDoorE
end

section
/- A place that is one of few. -/
namespace Go.Proofs.YtobjaddicodiaaaDoorE
open Go Go.RowKit
section
variable {H : List Own} {S : Seal} {σ : Sl} {i : Operand} {kk : IntKind} {v j : Int} {u : Value}
theorem ixs_at {z : Nat} {x : Operand} (hi : ev σ i = some (.int kk v)) (hv : (v == j) = true) (h : qv H S σ (.ixs z x (.const (.int kk j))) = some u) : qv H S σ (.ixs z x i) = some u := by
  obtain rfl := beq_iff_eq.1 hv
  simp only [qv] at h ⊢
  rw [hi]
  exact h
theorem ixa_at {z m : Nat} {x : Operand} (hi : ev σ i = some (.int kk v)) (hv : (v == j) = true) (h : qv H S σ (.ixa z m x (.const (.int kk j))) = some u) : qv H S σ (.ixa z m x i) = some u := by
  obtain rfl := beq_iff_eq.1 hv
  simp only [qv] at h ⊢
  rw [hi]
  exact h
theorem ixv_at {n : Option Nat} {z m : Nat} {x : Operand} (hi : ev σ i = some (.int kk v)) (hv : (v == j) = true) (h : qv H S σ (.ixv n z m x (.const (.int kk j))) = some u) : qv H S σ (.ixv n z m x i) = some u := by
  obtain rfl := beq_iff_eq.1 hv
  cases n <;> simp only [qv] at h ⊢ <;> rw [hi] <;> exact h
end
end Go.Proofs.YtobjaddicodiaaaDoorE
end

section
/- A sealed list of whole numbers, of any length. -/
namespace Go.Proofs.YtobjaddicodiaaaDoorE
open Go Go.RowKit
set_option linter.unusedVariables false
/-- The slice that begins at a, in sealed memory, reads as L. -/
def SlI (S : Seal) (k : IntKind) (L : List Int) (a : Option Addr) : Prop := L = [] ∨ ∃ b o l, a = some ⟨b, o, none⟩ ∧ S b = some l ∧ ∀ (i : Nat) (x : Int), L[i]? = some x → l[o + i]? = some (.int k x)
/-- The i-th, or nothing. -/
def lget (L : List Int) (i : Int) : Option Int := if i < 0 then none else L[i.toNat]?
theorem sl_get {S : Seal} {k : IntKind} {L : List Int} {a : Option Addr} {i x : Int} (h : SlI S k L a) (hx : lget L i = some x) :
    ∃ b o l, a = some ⟨b, o, none⟩ ∧ S b = some l ∧ l[o + i.toNat]? = some (.int k x) ∧ 0 ≤ i ∧ i < L.length := by
  unfold lget at hx
  split at hx
  · cases hx
  · rename_i h0
    have hlt := (List.getElem?_eq_some_iff.1 hx).1
    rcases h with rfl | ⟨b, o, l, ha, hS, hl⟩
    · simp at hlt
    · exact ⟨b, o, l, ha, hS, hl _ _ hx, by omega, by omega⟩
section
variable {H : List Own} {S : Seal} {σ : Sl} {x i : Operand} {kk : IntKind} {v : Int} {a : Option Addr} {n c b o z : Nat}
theorem ixs_sl (hx : ev σ x = some (.slice a n c)) (hi : ev σ i = some (.int kk v)) (ha : a = some ⟨b, o, none⟩) (h0 : 0 ≤ v) (h1 : v < n) : qv H S σ (.ixs z x i) = some (.pointer (some ⟨b, o + v.toNat * z, none⟩)) := by
  subst ha
  simp only [qv]
  rw [hx, hi]
  simp only
  rw [if_pos ⟨h0, h1⟩]
end
end Go.Proofs.YtobjaddicodiaaaDoorE
end

section
/- A law's slice of whole numbers: its block sealed. -/
namespace Go.Proofs.YtobjaddicodiaaaDoorE
open Go Go.RowKit
set_option linter.unusedVariables false
set_option linter.unusedSimpArgs false
set_option linter.unnecessarySimpa false
/-- All that is there, as it is. -/
def sealW (w : World) (pl : Nat → Prop) : Seal := ⟨fun b => match w.heap[b]? with
  | some (.cells c _ _) => some c.toList
  | _ => none, pl⟩
theorem sealW_at {w : World} {pl : Nat → Prop} {b : Nat} {c : Array Value} {T : TypeId} {z : Nat × Nat} (h : w.heap[b]? = some (.cells c T z)) : sealW w pl b = some c.toList := by
  simp only [sealW, h]
theorem hokW {w : World} {pl : Nat → Prop} (h : ∀ b, pl b → ∃ (arr : Array Value) (T : TypeId), w.heap[b]? = some (.cells arr T (0, 0))) : HOK [] (sealW w pl) w := by
  refine ⟨fun _ h => (by cases h), List.nodup_nil, fun _ h => (by cases h), fun b l hl => ?_, fun b hb => ⟨fun h => (by cases h), h b hb⟩⟩
  simp only [sealW] at hl
  split at hl
  · rename_i c T z hh
    obtain rfl := Option.some.inj hl
    exact ⟨c, T, z, hh, fun i v hv => by simpa using hv⟩
  · cases hl
theorem cell_block {w : World} {a : Addr} {v : Value} (h : w.cell? a = some v) : ∃ (c : Array Value) (T : TypeId) (z : Nat × Nat), w.heap[a.block]? = some (.cells c T z) ∧ a = ⟨a.block, a.off, none⟩ ∧ c[a.off]? = some v := by
  obtain ⟨b, o, sp⟩ := a
  unfold World.cell? at h
  cases hb : w.heap[b]? with
  | none => simp [hb] at h
  | some ob =>
    cases ob with
    | cells c T z =>
      cases sp with
      | none => exact ⟨c, T, z, rfl, rfl, by simpa [hb] using h⟩
      | some q => simp [hb] at h
    | _ => simp [hb] at h
theorem ints_W {w : World} {pl : Nat → Prop} {k : IntKind} {a : Addr} {len : Nat} {zs : List Int} (hl : len ≤ zs.length) (h : ∀ i, i < zs.length → w.cell? (a.add i) = some (.int k (zs.getD i 0))) : SlI (sealW w pl) k (zs.take len) (some a) := by
  by_cases h0 : len = 0
  · exact Or.inl (by simp [h0])
  · have hc := h 0 (by omega)
    have e0 : a.add 0 = a := by simp [Addr.add]
    rw [e0] at hc
    obtain ⟨c, T, z, hh, ha, _⟩ := cell_block hc
    obtain ⟨b, o, sp⟩ := a
    simp only [Addr.mk.injEq, true_and] at ha
    subst ha
    refine Or.inr ⟨b, o, c.toList, rfl, sealW_at hh, ?_⟩
    intro i x hx
    have hlt : i < zs.length := by
      have := (List.getElem?_eq_some_iff.1 hx).1
      simp at this
      omega
    have hc2 := h i hlt
    rw [Addr.add_lit] at hc2
    simp only [World.cell?, hh] at hc2
    have e : zs.getD i 0 = x := by
      rw [List.getElem?_take] at hx
      split at hx
      · simp [List.getD_eq_getElem?_getD, hx]
      · cases hx
    rw [e] at hc2
    simpa using hc2
theorem hok_ints {w : World} {k : IntKind} {a : Addr} {len : Nat} {zs : List Int} (hl : len ≤ zs.length) (h : ∀ i, i < zs.length → w.cell? (a.add i) = some (.int k (zs.getD i 0))) :
    ∃ S : Seal, HOK [] S w ∧ SlI S k (zs.take len) (some a) := ⟨sealW w fun _ => False, hokW fun _ h => h.elim, ints_W hl h⟩
end Go.Proofs.YtobjaddicodiaaaDoorE
end

section
/- A struct of whole numbers and truth values, however deep, as a law's argument: its leaves. -/
namespace Go.Proofs.YtobjaddicodiaaaDoorE
open Go Go.RowKit Go.WideShapes
set_option linter.unusedVariables false
def flatFs (g : TypeId → Option (List (Option IntKind))) (P : Program) : Nat → List Field → Option (List (Option IntKind))
  | _, [] => some []
  | o, f :: r => if f.offset = o then match g f.type with
    | some a => if a.length = P.cellsOf f.type then (match flatFs g P (o + a.length) r with
      | some b => some (a ++ b)
      | none => none) else none
    | none => none
    else none
def flatK (P : Program) : Nat → TypeId → Option (List (Option IntKind))
  | 0, _ => none
  | m + 1, t => match P.underlying t with
    | some (.int k) => some [some k]
    | some .bool => some [none]
    | some (.struct fs) => match flatFs (flatK P m) P 0 fs.toList with
      | some ks => if ks.length = P.cellsOf t then some ks else none
      | none => none
    | _ => none
def Leaves : List (Option IntKind) → List Value → Prop
  | [], cs => cs = []
  | some k :: r, cs => ∃ n cs', cs = .int k n :: cs' ∧ (Lit.int k n).wf = true ∧ Leaves r cs'
  | none :: r, cs => ∃ b cs', cs = .bool b :: cs' ∧ Leaves r cs'
theorem Leaves.append : ∀ {a b : List (Option IntKind)} {u v : List Value}, Leaves a u → Leaves b v → Leaves (a ++ b) (u ++ v)
  | [], b, u, v, h, g => by obtain rfl : u = [] := h; exact g
  | some k :: r, b, u, v, h, g => by
    obtain ⟨n, cs, rfl, w, h⟩ := h
    exact ⟨n, cs ++ v, rfl, w, h.append g⟩
  | none :: r, b, u, v, h, g => by
    obtain ⟨n, cs, rfl, h⟩ := h
    exact ⟨n, cs ++ v, rfl, h.append g⟩
section
variable {H : Type} {enc : TypeId × Value → H} {P : Program} {w : World} {base : Nat} {spare : Nat → Bool} {held : Bool}
theorem leavesFs {g : TypeId → Option (List (Option IntKind))} {n : Nat} {cs : List Value} (ih : ∀ t ks x cs, g t = some ks → DataW.trod enc P w base spare held n t cs = some x → Leaves ks cs) :
    ∀ {l : List Field} {o : Nat} {ks : List (Option IntKind)}, flatFs g P o l = some ks → (∀ f ∈ l, ∃ y, DataW.trod enc P w base spare held n f.type ((cs.drop f.offset).take (P.cellsOf f.type)) = some y) → cs.length = o + ks.length → Leaves ks (cs.drop o)
  | [], o, ks, h, _, hl => by
    simp only [flatFs, Option.some.injEq] at h
    subst h
    show cs.drop o = []
    exact List.drop_eq_nil_of_le (by simp at hl; omega)
  | f :: r, o, ks, h, hf, hl => by
    unfold flatFs at h
    split at h
    · rename_i ho
      split at h
      · rename_i a ha
        split at h
        · rename_i hsz
          split at h
          · rename_i b hb
            obtain rfl := Option.some.inj h
            obtain ⟨y, hy⟩ := hf f (by simp)
            have h1 := ih _ _ _ _ ha hy
            rw [ho, ← hsz] at h1
            have h2 := leavesFs ih hb (fun f hf' => hf f (by simp [hf'])) (by simp at hl; omega)
            have e : cs.drop o = (cs.drop o).take a.length ++ cs.drop (o + a.length) := by
              rw [← List.drop_drop, List.take_append_drop]
            rw [e]
            exact h1.append h2
          · cases h
        · cases h
      · cases h
    · cases h
theorem leaves : ∀ (m : Nat) {n : Nat} (t : TypeId) (ks : List (Option IntKind)) (x : DataW H × List MemPlace) (cs : List Value), flatK P m t = some ks → DataW.trod enc P w base spare held n t cs = some x → Leaves ks cs
  | 0, _, _, _, _, _, h, _ => by cases h
  | m + 1, n, t, ks, x, cs, h, hx => by
    unfold flatK at h
    split at h
    · rename_i k hk
      obtain rfl := Option.some.inj h
      obtain ⟨i, rfl, _, hw⟩ := DataW.trod_int hk hx
      exact ⟨i, [], rfl, hw, rfl⟩
    · rename_i hk
      obtain rfl := Option.some.inj h
      obtain ⟨b, rfl, _⟩ := DataW.trod_bool hk hx
      exact ⟨b, [], rfl, rfl⟩
    · rename_i fs hk
      split at h
      · rename_i ks' hks
        split at h
        · rename_i hlen
          obtain rfl := Option.some.inj h
          obtain ⟨xs, n', rfl, rfl, hl, hxl, hf⟩ := DataW.trod_struct hk hx
          have := leavesFs (cs := cs) (n := n') (fun t ks x cs => leaves m t ks x cs) hks (fun f hm => by
            obtain ⟨i, hi, rfl⟩ := List.getElem_of_mem hm
            have hi' : i < fs.size := by simpa using hi
            have h1 := hf i fs[i] (Array.getElem?_eq_getElem hi')
            have h2 : xs[i]? = some xs[i] := List.getElem?_eq_getElem (by omega)
            rw [h2] at h1
            exact ⟨_, by simpa using h1⟩) (by omega)
          simpa using this
        · cases h
      · cases h
    · cases h
theorem open_flat {r : Reach} {b0 : Nat} {t : TypeId} {fs : Array Field} {v : Value} {d : DataW H} {p : List MemPlace} {ks : List (Option IntKind)} (hs : P.underlying t = some (.struct fs)) (hk : flatK P 9 t = some ks)
    (hv : Value.okWide P w r b0 t v) (h : DataW.Trod enc P w base spare held t v d p) : ∃ cs : List Value, v = .agg cs.toArray ∧ Leaves ks cs := by
  obtain ⟨cs, rfl, hsz⟩ := okWide_struct hs hv
  obtain ⟨fuel, hf⟩ := h
  exact ⟨cs.toList, by simp, leaves 9 t ks _ _ hk (by simpa [Value.cells] using hf)⟩
end
end Go.Proofs.YtobjaddicodiaaaDoorE
end

section
/- Lists of any length in memory: owned (growing by append), or sealed. -/
namespace Go.Proofs.YtobjaddicodiaaaDoorE
open Go Go.RowKit
set_option linter.unusedVariables false
set_option linter.unusedSimpArgs false

/-- How an element lies in memory. -/
structure En (T : Type) where
  z : Nat
  en : T → List Value
  len : ∀ x, (en x).length = z
  oc : ∀ x, (en x).all (·.oneCell') = true
def encL {T : Type} (E : En T) : List T → List Value
  | [] => []
  | x :: r => E.en x ++ encL E r
section
variable {T : Type} {E : En T}
theorem encL_append (A B : List T) : encL E (A ++ B) = encL E A ++ encL E B := by
  induction A with
  | nil => rfl
  | cons x r ih => simp [encL, ih]
theorem encL_len (L : List T) : (encL E L).length = L.length * E.z := by
  induction L with
  | nil => simp [encL]
  | cons x r ih => simp [encL, ih, E.len, Nat.add_mul, Nat.add_comm]
theorem encL_oc (L : List T) : (encL E L).all (·.oneCell') = true := by
  induction L with
  | nil => rfl
  | cons x r ih => simp only [encL, List.all_append, E.oc, ih, Bool.and_self]
theorem encL_split {L : List T} {i : Nat} {x : T} (h : L[i]? = some x) : ∃ A B, A.length = i * E.z ∧ encL E L = A ++ (E.en x ++ B) ∧ ∀ y, encL E (L.set i y) = A ++ (E.en y ++ B) := by
  induction L generalizing i with
  | nil => simp at h
  | cons u r ih =>
    cases i with
    | zero => simp at h; subst h; exact ⟨[], encL E r, by simp, rfl, fun y => rfl⟩
    | succ i =>
      obtain ⟨A, B, h1, h2, h3⟩ := ih (i := i) (by simpa using h)
      exact ⟨E.en u ++ A, B, by simp [h1, E.len, Nat.add_mul, Nat.add_comm], by simp [encL, h2], fun y => by simp [encL, h3]⟩
theorem encL_at {L : List T} {i off : Nat} {x : T} {v : Value} (h : L[i]? = some x) (hv : (E.en x)[off]? = some v) : (encL E L)[i * E.z + off]? = some v := by
  obtain ⟨A, B, h1, h2, _⟩ := encL_split (E := E) h
  rw [h2, ← h1, List.getElem?_append_right (by omega), show A.length + off - A.length = off from by omega, List.getElem?_append_left (List.getElem?_eq_some_iff.1 hv).1]
  exact hv
theorem subl_mid {A M B vs : List Value} {off n : Nat} (h : subl M off n = some vs) : subl (A ++ (M ++ B)) (A.length + off) n = some vs := by
  unfold subl at h ⊢
  split at h
  · rename_i hl
    obtain rfl := Option.some.inj h
    rw [if_pos (by simp; omega), List.drop_append, List.drop_eq_nil_of_le (by omega), List.nil_append, show A.length + off - A.length = off from by omega, List.drop_append_of_le_length (by omega), List.take_append_of_le_length (by simp; omega)]
  · cases h
theorem encL_sub {L : List T} {i off n : Nat} {x : T} {vs : List Value} (h : L[i]? = some x) (hv : subl (E.en x) off n = some vs) : subl (encL E L) (i * E.z + off) n = some vs := by
  obtain ⟨A, B, h1, h2, _⟩ := encL_split (E := E) h
  rw [h2, ← h1]
  exact subl_mid hv
theorem stl_mid {A M B M' vs : List Value} {off : Nat} (h : stl M off vs = some M') : stl (A ++ (M ++ B)) (A.length + off) vs = some (A ++ (M' ++ B)) := by
  unfold stl at h ⊢
  split at h
  · rename_i hl
    obtain rfl := Option.some.inj h
    rw [if_pos (by simp; omega)]
    have e1 : List.take (A.length + off) (A ++ (M ++ B)) = A ++ M.take off := by
      rw [List.take_append, List.take_of_length_le (by omega), show A.length + off - A.length = off from by omega, List.take_append_of_le_length (by omega)]
    have e2 : List.drop (A.length + off + vs.length) (A ++ (M ++ B)) = M.drop (off + vs.length) ++ B := by
      rw [List.drop_append, List.drop_eq_nil_of_le (by omega), List.nil_append, show A.length + off + vs.length - A.length = off + vs.length from by omega, List.drop_append_of_le_length (by omega)]
    rw [e1, e2]
    simp
  · cases h
theorem encL_set {L : List T} {i off : Nat} {x x' : T} {vs : List Value} (h : L[i]? = some x) (hv : stl (E.en x) off vs = some (E.en x')) : stl (encL E L) (i * E.z + off) vs = some (encL E (L.set i x')) := by
  obtain ⟨A, B, h1, h2, h3⟩ := encL_split (E := E) h
  rw [h2, h3, ← h1]
  exact stl_mid hv
end

/-- The i-th, or nothing. -/
def lgt {T : Type} (L : List T) (i : Int) : Option T := if i < 0 then none else L[i.toNat]?
theorem lgt_in {T : Type} {L : List T} {i : Int} {x : T} (h : lgt L i = some x) : L[i.toNat]? = some x ∧ 0 ≤ i ∧ i < L.length := by
  unfold lgt at h
  split at h
  · cases h
  · rename_i h0
    have hlt := (List.getElem?_eq_some_iff.1 h).1
    exact ⟨h, by omega, by omega⟩
/-- Longer by some. -/
def lapp {T : Type} (L X : List T) : Option (List T) := if L.length + X.length ≤ 4294967296 then some (L ++ X) else none
theorem lapp_is {T : Type} {L X L' : List T} (h : lapp L X = some L') : L' = L ++ X ∧ L.length + X.length ≤ 4294967296 := by
  unfold lapp at h
  split at h
  · obtain rfl := Option.some.inj h
    exact ⟨rfl, by assumption⟩
  · cases h
/-- A part. -/
def lsub {T : Type} (L : List T) (l h : Int) : Option (List T) := if 0 ≤ l ∧ l ≤ h ∧ h ≤ L.length ∧ L ≠ [] then some ((L.drop l.toNat).take (h - l).toNat) else none
/-- The i-th set. -/
def lput {T : Type} (L : List T) (i : Int) (x : T) : Option (List T) := if 0 ≤ i ∧ i < L.length then some (L.set i.toNat x) else none
theorem lput_is {T : Type} {L L' : List T} {i : Int} {x : T} (h : lput L i x = some L') : L' = L.set i.toNat x ∧ L.length = L'.length := by
  unfold lput at h
  split at h
  · obtain rfl := Option.some.inj h
    exact ⟨rfl, by simp⟩
  · cases h
/-- So many of the same. -/
def lmk {T : Type} (x : T) (n m : Int) : Option (List T) := if 0 ≤ n ∧ n ≤ m ∧ m ≤ 4294967296 then some (List.replicate n.toNat x) else none

/-- A view of sealed memory. -/
def SlE {T : Type} (S : Seal) (E : En T) (L : List T) (a : Option Addr) : Prop := L = [] ∨ ∃ b o l, a = some ⟨b, o, none⟩ ∧ S b = some l ∧ ∀ (i : Nat) (x : T), L[i]? = some x → subl l (o + i * E.z) E.z = some (E.en x)
/-- A view of an owned block's cells. -/
def SlV {T : Type} (E : En T) (L : List T) (cs : List Value) (o : Nat) : Prop := ∀ (i : Nat) (x : T), L[i]? = some x → subl cs (o + i * E.z) E.z = some (E.en x)
section
variable {T : Type} {E : En T}
theorem subl_all {l : List Value} {n : Nat} (h : l.length = n) : subl l 0 n = some l := by
  unfold subl
  rw [if_pos (by omega)]
  subst h
  simp
theorem SlV.all (L : List T) : SlV E L (encL E L) 0 := fun i x h => by
  have := encL_sub (off := 0) h (subl_all (E.len x))
  simpa using this
theorem SlE.mono {S S' : Seal} {L : List T} {a : Option Addr} (h : SlE S E L a) (hle : ∀ b l, S b = some l → S' b = some l) : SlE S' E L a := by
  rcases h with h | ⟨b, o, l, ha, hS, hl⟩
  · exact Or.inl h
  · exact Or.inr ⟨b, o, l, ha, hle b l hS, hl⟩
theorem SlE.nil {S : Seal} {a : Option Addr} : SlE S E [] a := Or.inl rfl
theorem SlE.of {S : Seal} {L : List T} {cs : List Value} {a : Option Nat} {o : Nat} (hv : SlV E L cs o) (hz : 0 < E.z) (hS : cs = [] ∨ ∃ b, a = some b ∧ S b = some cs) : SlE S E L (some ⟨bk a, o, none⟩) := by
  rcases hS with rfl | ⟨b, rfl, hb⟩
  · cases L with
    | nil => exact Or.inl rfl
    | cons x r =>
      have := hv 0 x rfl
      unfold subl at this
      split at this
      · rename_i h; simp at h; omega
      · cases this
  · exact Or.inr ⟨b, o, cs, rfl, hb, hv⟩
theorem SlE.ofAd {S : Seal} {L : List T} {a : Option Nat} (hS : encL E L = [] ∨ ∃ b, a = some b ∧ S b = some (encL E L)) (hz : 0 < E.z) : SlE S E L (ad a) := by
  rcases hS with h | ⟨b, rfl, hb⟩
  · have := congrArg List.length h
    rw [encL_len] at this
    simp only [List.length_nil, Nat.mul_eq_zero] at this
    exact Or.inl (List.length_eq_zero_iff.1 (by omega))
  · exact Or.inr ⟨b, 0, _, rfl, hb, SlV.all L⟩
theorem SlV.get {L : List T} {cs : List Value} {q : Nat} {i : Int} {x : T} (h : SlV E L cs q) (hx : lgt L i = some x) : subl cs (q + i.toNat * E.z) E.z = some (E.en x) ∧ 0 ≤ i ∧ i < L.length := ⟨h _ _ (lgt_in hx).1, (lgt_in hx).2⟩
theorem subl_at {l vs : List Value} {p z off : Nat} {v : Value} (h : subl l p z = some vs) (hv : vs[off]? = some v) : l[p + off]? = some v := (subl_get h).2 _ _ hv
theorem subl_sub {l vs us : List Value} {p z off n : Nat} (h : subl l p z = some vs) (hv : subl vs off n = some us) : subl l (p + off) n = some us := by
  unfold subl at h hv ⊢
  split at h
  · rename_i h1
    obtain rfl := Option.some.inj h
    split at hv
    · rename_i h2
      obtain rfl := Option.some.inj hv
      simp only [List.length_take, List.length_drop] at h2
      rw [if_pos (by omega), List.drop_take, List.drop_drop, List.take_take]
      congr 2
      omega
    · cases hv
  · cases h
/-- An element of a sealed list. -/
theorem sle_get {S : Seal} {L : List T} {a : Option Addr} {i : Int} {x : T} (h : SlE S E L a) (hx : lgt L i = some x) :
    ∃ b o l, a = some ⟨b, o, none⟩ ∧ S b = some l ∧ subl l (o + i.toNat * E.z) E.z = some (E.en x) ∧ 0 ≤ i ∧ i < L.length := by
  obtain ⟨h1, h2, h3⟩ := lgt_in hx
  rcases h with rfl | ⟨b, o, l, ha, hS, hl⟩
  · simp at h1
  · exact ⟨b, o, l, ha, hS, hl _ _ h1, h2, h3⟩
end
def eI (k : IntKind) : En Int := ⟨1, fun x => [.int k x], fun _ => rfl, fun _ => rfl⟩
theorem SlI.e {S : Seal} {k : IntKind} {L : List Int} {a : Option Addr} (h : SlI S k L a) : SlE S (eI k) L a := by
  rcases h with h | ⟨b, o, l, ha, hS, hl⟩
  · exact Or.inl h
  · refine Or.inr ⟨b, o, l, ha, hS, fun i x hx => ?_⟩
    have := hl i x hx
    have hlt := (List.getElem?_eq_some_iff.1 this).1
    show subl l (o + i * 1) 1 = some [.int k x]
    unfold subl
    rw [Nat.mul_one, if_pos (by omega), List.drop_eq_getElem_cons hlt]
    simp [(List.getElem?_eq_some_iff.1 this).2]

section
variable {α : Type} {P : Program} {N : Nat} {all : Array Oper} {r : List O} {o : O} {σ : Sl} {H : List Own} {S : Seal} {Q : Pst} {c : C} {Qs : Qst}
/-- What is plain of memory may be used. -/
theorem t_pure {p : Prop} {ops : List O} (hp : ∀ w, HOK H S w → p) (h : p → T P N all ops σ H S Q) : T P N all ops σ H S Q :=
  fun L hL ts w R hσ hN hH hR => h (hp w hH) L hL ts w R hσ hN hH hR
theorem HOK.someB {w : World} (hH : HOK H S w) {j : Nat} {a : Option Nat} {cs : List Value} {M : Nat} (he : H[j]? = some ⟨a, cs, M⟩) (h0 : cs ≠ []) : a = some (bk a) := by
  rcases hH.own _ (List.mem_of_getElem? he) with ⟨_, h, _⟩ | ⟨b, h, _⟩
  · exact absurd h h0
  · simp only at h; subst h; rfl
theorem HOK.noB {w : World} (hH : HOK H S w) {j : Nat} {cs : List Value} {M : Nat} (he : H[j]? = some ⟨Option.none, cs, M⟩) : cs = [] ∧ M = 0 := by
  rcases hH.own _ (List.mem_of_getElem? he) with ⟨_, h, g⟩ | ⟨b, h, _⟩
  · exact ⟨h, g⟩
  · cases h
theorem HOK.le {w : World} (hH : HOK H S w) {j : Nat} {a : Option Nat} {cs : List Value} {M : Nat} (he : H[j]? = some ⟨a, cs, M⟩) : cs.length ≤ M := by
  rcases hH.own _ (List.mem_of_getElem? he) with ⟨_, h, g⟩ | ⟨b, h, _, _, _, _, g, _⟩
  · simp only at h; simp [h]
  · exact g
theorem VS.vac : VS H S (⟨Option.none, [], 0⟩ :: H) S := fun w h =>
  ⟨⟨fun e he => by
    rcases List.mem_cons.1 he with rfl | he
    · exact Or.inl ⟨rfl, rfl, rfl⟩
    · exact h.own e he, by simpa [bs] using h.nd, fun b hb => h.dis b (by simpa [bs] using hb), h.seal_, fun b hb => ⟨fun hm => (h.pl_ b hb).1 (by simpa [bs] using hm), (h.pl_ b hb).2⟩⟩, ⟨Ext.refl _ _, fun b hb => Or.inl (by simpa [bs] using hb), fun _ _ h => Or.inl h, fun _ _ h => h, rfl⟩⟩
theorem w_H {H' : List Own} (e : H = H') (h : W P N c σ H' S Qs) : W P N c σ H S Qs := by subst e; exact h
theorem t_H {H' : List Own} {ops : List O} (e : H = H') (h : T P N all ops σ H' S Q) : T P N all ops σ H S Q := by subst e; exact h
theorem t_eq {σ' : Sl} {H' : List Own} {ops : List O} (e : σ = σ') (e2 : H = H') (h : T P N all ops σ' H' S Q) : T P N all ops σ H S Q := by subst e e2; exact h
theorem w_eq {σ' : Sl} {H' : List Own} (e : σ = σ') (e2 : H = H') (h : W P N c σ' H' S Qs) : W P N c σ H S Qs := by subst e e2; exact h
theorem encL_ne {E : En α} {L : List α} (h0 : 0 < E.z) (h : L ≠ []) : encL E L ≠ [] := fun e => by
  have := congrArg List.length e
  rw [encL_len] at this
  simp only [List.length_nil, Nat.mul_eq_zero] at this
  rcases this with g | g
  · exact h (List.length_eq_zero_iff.1 g)
  · omega

/-- A place of an owned list. -/
theorem ixl {E : En α} {L : List α} {j z n cp M : Nat} {a : Option Nat} {v : Int} {t : α} {kk : IntKind} {x i : Operand} (hx : ev σ x = some (.slice (ad a) n cp)) (hi : ev σ i = some (.int kk v)) (he : H[j]? = some ⟨a, encL E L, M⟩) (hz0 : 0 < E.z) (hn : n = L.length) (hg : lgt L v = some t) :
    ∀ w, HOK H S w → qv H S σ (.ixs z x i) = some (.pointer (some ⟨bk a, v.toNat * z + 0, none⟩)) := by
  intro w hH
  obtain ⟨h1, h2, h3⟩ := lgt_in hg
  have ha := hH.someB he (encL_ne hz0 (fun h => by subst h; simp at h1))
  obtain ⟨b, rfl⟩ : ∃ b, a = some b := ⟨_, ha⟩
  simp only [qv]
  rw [hx, hi]
  simp only [ad, Option.map_some]
  rw [if_pos ⟨h2, by omega⟩]
  simp [bk]
/-- A place of a sealed list. -/
theorem ixs_sle {x i : Operand} {kk : IntKind} {v : Int} {a : Option Addr} {n cp b q z : Nat} (hx : ev σ x = some (.slice a n cp)) (hi : ev σ i = some (.int kk v)) (ha : a = some ⟨b, q, none⟩) (h0 : 0 ≤ v) (h1 : v < n) : qv H S σ (.ixs z x i) = some (.pointer (some ⟨b, q + v.toNat * z + 0, none⟩)) := ixs_sl hx hi ha h0 h1

/-- A bound that is there, or isn't. -/
def Bd (σ : Sl) (l : Option Operand) (d v : Int) : Prop := (l = none ∧ v = d) ∨ ∃ ol k, l = some ol ∧ ev σ ol = some (.int k v)
theorem Bd.no {d : Int} : Bd σ none d d := Or.inl ⟨rfl, rfl⟩
theorem Bd.is {x : Operand} {k : IntKind} {v d : Int} (h : ev σ x = some (.int k v)) : Bd σ (some x) d v := Or.inr ⟨x, k, rfl, h⟩
theorem qv_sls {b q n cp z : Nat} {lo hi : Int} {x : Operand} {l h : Option Operand} (hx : ev σ x = some (.slice (some ⟨b, q, none⟩) n cp)) (hl : Bd σ l 0 lo) (hh : Bd σ h n hi) (h0 : 0 ≤ lo) (h1 : lo ≤ hi) (h2 : hi ≤ n) (h3 : n ≤ cp) :
    qv H S σ (.sls z x l h) = some (.slice (some (if cp = lo.toNat then ⟨b, q, none⟩ else ⟨b, q + lo.toNat * z, none⟩)) (hi.toNat - lo.toNat) (cp - lo.toNat)) := by
  have b1 : ∀ (y : Nat) (k : IntKind) (v : Int), 0 ≤ v → v ≤ y → bnd y (.int k v) = some v.toNat := fun y k v g1 g2 => by simp [bnd, g1, g2]
  have hmin : min n cp = n := by omega
  rcases hl with ⟨rfl, rfl⟩ | ⟨ol, k, rfl, g⟩ <;> rcases hh with ⟨rfl, rfl⟩ | ⟨oh, k2, rfl, g2⟩
  · simp only [qv, evo]
    rw [hx]
    simp
  · simp only [qv, evo, g2]
    rw [hx]
    simp only [hmin]
    rw [b1 n k2 hi (by omega) h2]
    simp
  · simp only [qv, evo, g]
    rw [hx]
    simp only
    rw [b1 n k lo h0 h1]
    simp
  · simp only [qv, evo, g, g2]
    rw [hx]
    simp only [hmin]
    rw [b1 n k2 hi (by omega) h2]
    simp only
    rw [b1 hi.toNat k lo h0 (by omega)]
/-- A part of an owned list. -/
theorem cutl {E : En α} {L L' : List α} {j z M : Nat} {a : Option Nat} {lo hi : Int} {x : Operand} {l h : Option Operand} (hx : ev σ x = some (.slice (ad a) L.length (M / z))) (hl : Bd σ l 0 lo) (hh : Bd σ h L.length hi)
    (he : H[j]? = some ⟨a, encL E L, M⟩) (hz : E.z = z) (hz0 : 0 < z) (hM : (encL E L).length ≤ M) (hs : lsub L lo hi = some L') :
    ∃ q cp, (∀ w, HOK H S w → qv H S σ (.sls z x l h) = some (.slice (some ⟨bk a, q, none⟩) L'.length cp)) ∧ SlV E L' (encL E L) q := by
  subst hz
  unfold lsub at hs
  split at hs
  · rename_i hc
    obtain ⟨c0, c1, c2, c3⟩ := hc
    obtain rfl := Option.some.inj hs
    rw [encL_len] at hM
    have hcap : L.length ≤ M / E.z := (Nat.le_div_iff_mul_le hz0).2 hM
    have hlen : ((L.drop lo.toNat).take (hi - lo).toNat).length = hi.toNat - lo.toNat := by simp; omega
    refine ⟨if M / E.z = lo.toNat then 0 else lo.toNat * E.z, M / E.z - lo.toNat, ?_, ?_⟩
    · intro w hH
      have ha := hH.someB he (encL_ne hz0 c3)
      obtain ⟨b, rfl⟩ : ∃ b, a = some b := ⟨_, ha⟩
      rw [qv_sls (b := b) (q := 0) hx hl hh c0 c1 c2 hcap, hlen]
      simp only [bk, Option.getD_some, Nat.zero_add]
      split <;> rfl
    · intro i x hx'
      have hi' := (List.getElem?_eq_some_iff.1 hx').1
      rw [hlen] at hi'
      rw [List.getElem?_take, if_pos (by omega), List.getElem?_drop] at hx'
      have hsub := SlV.all (E := E) L _ _ hx'
      rw [if_neg (by omega), ← Nat.add_mul]
      simpa using hsub
  · cases hs
theorem cutN {E : En α} {L L' : List α} {z M : Nat} {lo hi : Int} (hz : E.z = z) (hz0 : 0 < z) (hM : (encL E L).length ≤ M) (hs : lsub L lo hi = some L') :
    ∃ q cp, SlV E L' (encL E L) q ∧ ∀ {σ : Sl} {H : List Own} {S : Seal} {j : Nat} {a : Option Nat} {x : Operand} {l h : Option Operand}, ev σ x = some (.slice (ad a) L.length (M / z)) → Bd σ l 0 lo → Bd σ h L.length hi → H[j]? = some ⟨a, encL E L, M⟩ →
      ∀ w, HOK H S w → qv H S σ (.sls z x l h) = some (.slice (some ⟨bk a, q, none⟩) L'.length cp) := by
  subst hz
  have hs' := hs
  unfold lsub at hs
  split at hs
  · rename_i hc
    obtain ⟨c0, c1, c2, c3⟩ := hc
    obtain rfl := Option.some.inj hs
    have hM' := hM
    rw [encL_len] at hM'
    have hcap : L.length ≤ M / E.z := (Nat.le_div_iff_mul_le hz0).2 hM'
    have hlen : ((L.drop lo.toNat).take (hi - lo).toNat).length = hi.toNat - lo.toNat := by simp; omega
    refine ⟨if M / E.z = lo.toNat then 0 else lo.toNat * E.z, M / E.z - lo.toNat, ?_, ?_⟩
    · intro i x hx'
      have hi' := (List.getElem?_eq_some_iff.1 hx').1
      rw [hlen] at hi'
      rw [List.getElem?_take, if_pos (by omega), List.getElem?_drop] at hx'
      have hsub := SlV.all (E := E) L _ _ hx'
      rw [if_neg (by omega), ← Nat.add_mul]
      simpa using hsub
    · intro σ H S j a x l h hx hl hh he w hH
      have ha := hH.someB he (encL_ne hz0 c3)
      obtain ⟨b, rfl⟩ : ∃ b, a = some b := ⟨_, ha⟩
      rw [qv_sls (b := b) (q := 0) hx hl hh c0 c1 c2 hcap, hlen]
      simp only [bk, Option.getD_some, Nat.zero_add]
      split <;> rfl
  · cases hs
theorem w_pure {p : Prop} (hp : ∀ w, HOK H S w → p) (h : p → W P N c σ H S Qs) : W P N c σ H S Qs := by
  intro code hc ts w R hσ hN hH hR
  exact h (hp w hH) code hc ts w R hσ hN hH hR
/-- A part of a sealed list. -/
theorem cuts {E : En α} {L L' : List α} {z cp : Nat} {a : Option Addr} {lo hi : Int} {x : Operand} {l h : Option Operand} (hx : ev σ x = some (.slice a L.length cp)) (hl : Bd σ l 0 lo) (hh : Bd σ h L.length hi)
    (hv : SlE S E L a) (hc : L.length ≤ cp) (hz : E.z = z) (hs : lsub L lo hi = some L') :
    ∃ a' cp', qv H S σ (.sls z x l h) = some (.slice a' L'.length cp') ∧ SlE S E L' a' ∧ L'.length ≤ cp' := by
  subst hz
  unfold lsub at hs
  split at hs
  · rename_i hcc
    obtain ⟨c0, c1, c2, c3⟩ := hcc
    obtain rfl := Option.some.inj hs
    have hlen : ((L.drop lo.toNat).take (hi - lo).toNat).length = hi.toNat - lo.toNat := by simp; omega
    rcases hv with rfl | ⟨b, q, cs, rfl, hS, hv⟩
    · exact absurd rfl c3
    · refine ⟨_, _, by rw [qv_sls hx hl hh c0 c1 c2 hc, hlen], Or.inr ⟨b, if cp = lo.toNat then q else q + lo.toNat * E.z, cs, by split <;> rfl, hS, ?_⟩, by rw [hlen]; omega⟩
      intro i x hx'
      have hi' := (List.getElem?_eq_some_iff.1 hx').1
      rw [hlen] at hi'
      rw [List.getElem?_take, if_pos (by omega), List.getElem?_drop] at hx'
      have hsub := hv _ _ hx'
      rw [if_neg (by omega), Nat.add_assoc, ← Nat.add_mul]
      exact hsub
  · cases hs

/-- A store into an element of an owned list. -/
theorem t_stl (j : Nat) {E : En α} {L L' : List α} {a : Option Nat} {M n k off : Nat} {i : Int} {y0 y1 : α} {x y : Operand} {v : Value} {H' : List Own} (hk : o.k = .st n x y) (hw : wtd σ o.g = some true) (hx : ev σ x = some (.pointer (some ⟨bk a, k, none⟩))) (hy : ev σ y = some v) (he : H[j]? = some ⟨a, encL E L, M⟩)
    (hl : (cl v).length = n) (h1 : (cl v).all (·.oneCell') = true) (hz0 : 0 < E.z) (hk2 : k = i.toNat * E.z + off) (hg : lgt L i = some y0) (hs : stl (E.en y0) off (cl v) = some (E.en y1)) (hp : lput L i y1 = some L') (hH' : H.set j ⟨a, encL E L', M⟩ = H') (h : T P N all r (pt σ o.d undef) H' S Q) : T P N all (o :: r) σ H S Q := by
  obtain ⟨g1, g2, g3⟩ := lgt_in hg
  obtain ⟨rfl, _⟩ := lput_is hp
  refine t_pure (p := a = some (bk a)) (fun w hH => hH.someB he (encL_ne hz0 (fun h => by subst h; simp at g1))) fun ha => ?_
  obtain ⟨b, rfl⟩ : ∃ b, a = some b := ⟨_, ha⟩
  subst hk2
  exact t_sti j hk hw hx hy he hl h1 (encL_set g1 hs) hH' h

/-- Longer by what is known. -/
theorem t_appX {E : En α} {L X L' : List α} {e : TypeId} {z bytes m c M : Nat} {zero : List Value} {a : Option Nat} {a2 : Option Addr} {F : List Own} {x y : Operand} (hk : o.k = .app e z bytes zero x y) (hw : wtd σ o.g = some true) (hx : ev σ x = some (.slice (ad a) L.length (M / z))) (hy : ev σ y = some (.slice a2 m c))
    (hp : H.Perm ([⟨a, encL E L, M⟩] ++ F)) (hm : m = X.length) (hn : X = [] ∨ ∃ b2 k2, a2 = some ⟨b2, k2, none⟩ ∧ Rn H S b2 k2 (m * z) (encL E X)) (hz : E.z = z) (hz0 : 0 < z) (hby : bytes ≤ 32768) (hzz : zero.length = z) (hl : lapp L X = some L')
    (h : ∀ a' M', T P N all r (pt σ o.d (.slice (ad a') L'.length (M' / z))) (⟨a', encL E L', M'⟩ :: F) S Q) : T P N all (o :: r) σ H S Q := by
  subst hz hm
  obtain ⟨rfl, hb⟩ := lapp_is hl
  by_cases hX : X = []
  · subst hX
    refine t_op (fun e => by rw [hk] at e; cases e) hw ?_
    intro p ts w K R hkp hd hlt hσ hH hK
    obtain ⟨dst, op, type, pos, after, guard⟩ := p
    rw [hk] at hkp
    obtain ⟨cl_, t, u, i, v, rfl, hc, h1, h2, hu1, hu2, hi, hzz2, hne, hsz, rfl, rfl⟩ := toK_app hkp
    have hHp : HOK (⟨a, encL E L, M⟩ :: F) S w := hH.perm hp
    have hcap : L.length ≤ M / E.z := (Nat.le_div_iff_mul_le hz0).2 (by have := hHp.le (j := 0) rfl; rwa [encL_len] at this)
    have hf : ∀ q, (Builtin.firstCells q 0 (.slice a2 0 c)).run P w = .ok #[] w := by
      intro q
      cases a2 with
      | none => simp [Builtin.firstCells]
      | some ad2 => exact run_firstCells_some (P := P) w q 0 ad2 0 c [] (by simp) (fun j v h => by simp at h)
    have hrun : (Builtin.append_ #[t, u] type #[.slice (ad a) L.length (M / E.z), .slice a2 0 c]).run P w = .ok (.slice (ad a) L.length (M / E.z)) w := by
      rw [app_types hu1 hu2 hi]
      cases a with
      | none =>
        simp only [ad, Option.map_none]
        have h0 := (hHp.noB (j := 0) rfl)
        have hL : L.length = 0 := by have := congrArg List.length h0.1; rw [encL_len] at this; simp only [List.length_nil, Nat.mul_eq_zero] at this; omega
        rw [hL, h0.2]
        simp [Builtin.append_, run_underlying hu1, sizeOf, typeInfo, hi, Builtin.lenOf, hf]
      | some b =>
        simp only [ad, Option.map_some]
        simp [Builtin.append_, run_underlying hu1, sizeOf, typeInfo, hi, Builtin.lenOf, hcap, hf, storeCells]
    unfold Oper.wp
    rw [run_app hc h1 h2 (ev_ok hσ hx) (ev_ok hσ hy) hrun, Oper.upon_value, hd]
    have hT := h a M
    simp only [List.append_nil] at hT
    exact hK _ _ _ _ _ (hσ.pt (fun t ht => hlt t (by rw [hd]; exact ht)) []) hHp ((Step.refl _ _ _).toPerm hp) hT
  · obtain ⟨b2, k2, rfl, hn2⟩ := hn.resolve_left hX
    have h0 : 0 < X.length := List.length_pos_iff.2 hX
    have hbb : (L.length + X.length) * bytes ≤ 4294967296 * 32768 := Nat.mul_le_mul hb hby
    have hlen : (L ++ X).length = L.length + X.length := List.length_append
    cases a with
    | none =>
      refine t_pure (p := encL E L = [] ∧ M = 0) (fun w hH => (hH.perm hp).noB (j := 0) rfl) fun hq => ?_
      have hL : L = [] := by
        cases L with
        | nil => rfl
        | cons t r => exact absurd hq.1 (encL_ne hz0 (by simp))
      subst hL
      obtain ⟨_, rfl⟩ := hq
      have h1 : X.length * bytes ≤ 281474976710656 := by simp only [List.length_nil, Nat.zero_add] at hbb; omega
      refine t_app0 hk hw (by rw [hx]; simp [ad]) hy hn2 h0 (by simp only [List.length_nil, Nat.zero_add] at hb; omega) h1 hzz fun b n _ _ => ?_
      have hT := h (some b) n
      refine t_vs (H' := ⟨some b, encL E ([] ++ X), n⟩ :: F) (S' := S) ?_ hT
      refine VS.cons ((VS.perm (hp.trans List.perm_append_comm)).trans VS.drop)
    | some b =>
      refine t_app1 hk hw hx hy hp hn2 (encL_oc X) (encL_len L) rfl (by omega) (by omega) hzz fun b' M' => ?_
      have hT := h (some b') M'
      rw [hlen, encL_append] at hT
      exact hT
theorem subl_join {l A B : List Value} {o a b : Nat} (h : subl l o a = some A) (g : subl l (o + a) b = some B) : subl l o (a + b) = some (A ++ B) := by
  unfold subl at h g ⊢
  split at h
  · obtain rfl := Option.some.inj h
    split at g
    · obtain rfl := Option.some.inj g
      rw [if_pos (by omega), List.take_add, List.drop_drop]
    · cases g
  · cases h
theorem subl_pts {E : En α} {l : List Value} : ∀ {X : List α} {o : Nat}, X ≠ [] → (∀ (i : Nat) (x : α), X[i]? = some x → subl l (o + i * E.z) E.z = some (E.en x)) → subl l o (X.length * E.z) = some (encL E X)
  | [], _, h, _ => absurd rfl h
  | x :: r, o, _, h => by
    have h0 := h 0 x rfl
    simp only [Nat.zero_mul, Nat.add_zero] at h0
    by_cases hr : r = []
    · subst hr
      simpa [encL] using h0
    · have := subl_pts (X := r) (o := o + E.z) hr (fun i y hy => by
        have := h (i + 1) y (by simpa using hy)
        rwa [Nat.add_mul, Nat.one_mul, Nat.add_comm (i * E.z), ← Nat.add_assoc] at this)
      have j := subl_join h0 this
      rw [List.length_cons, Nat.add_mul, Nat.one_mul, Nat.add_comm (r.length * E.z)]
      exact j
/-- What is laid behind: out of an owned list, a sealed one, a part of an owned one. -/
theorem apO {E : En α} {w : World} (hH : HOK H S w) {j M z : Nat} {a : Option Nat} {X : List α} (he : H[j]? = some ⟨a, encL E X, M⟩) (hz : E.z = z) (hz0 : 0 < z) : X = [] ∨ ∃ b k, ad a = some ⟨b, k, none⟩ ∧ Rn H S b k (X.length * z) (encL E X) := by
  subst hz
  by_cases hX : X = []
  · exact Or.inl hX
  · have := hH.someB he (encL_ne hz0 hX)
    obtain ⟨b, rfl⟩ : ∃ b, a = some b := ⟨_, this⟩
    exact Or.inr ⟨b, 0, rfl, Rn.at j he (subl_all (encL_len X))⟩
theorem apS {E : En α} {z : Nat} {a : Option Addr} {X : List α} (h : SlE S E X a) (hz : E.z = z) : X = [] ∨ ∃ b k, a = some ⟨b, k, none⟩ ∧ Rn H S b k (X.length * z) (encL E X) := by
  subst hz
  by_cases hX : X = []
  · exact Or.inl hX
  · obtain ⟨b, q, l, ha, hS, hl⟩ := h.resolve_left hX
    exact Or.inr ⟨b, q, ha, Rn.sealed hS (subl_pts hX hl)⟩
theorem apV {E : En α} {j M z q : Nat} {a : Option Nat} {L X : List α} (he : H[j]? = some ⟨a, encL E L, M⟩) (hv : SlV E X (encL E L) q) (hz : E.z = z) : X = [] ∨ ∃ b k, some (⟨bk a, q, none⟩ : Addr) = some ⟨b, k, none⟩ ∧ Rn H S b k (X.length * z) (encL E X) := by
  subst hz
  by_cases hX : X = []
  · exact Or.inl hX
  · exact Or.inr ⟨_, _, rfl, Rn.lst j he (subl_pts hX hv)⟩
/-- A part of an owned list. -/
theorem t_cutl (j : Nat) {E : En α} {L L' : List α} {z M : Nat} {a : Option Nat} {lo hi : Int} {x : Operand} {l h : Option Operand} (hk : o.k = .sls z x l h) (hw : wtd σ o.g = some true) (hx : ev σ x = some (.slice (ad a) L.length (M / z))) (hl : Bd σ l 0 lo) (hh : Bd σ h L.length hi)
    (he : H[j]? = some ⟨a, encL E L, M⟩) (hz : E.z = z) (hz0 : 0 < z) (hs : lsub L lo hi = some L')
    (hT : ∀ q cp, SlV E L' (encL E L) q → T P N all r (pt σ o.d (.slice (some ⟨bk a, q, none⟩) L'.length cp)) H S Q) : T P N all (o :: r) σ H S Q := by
  refine t_pure (fun w hH => HOK.le hH he) fun hM => ?_
  obtain ⟨q, cp, h1, h2⟩ := cutl hx hl hh he hz hz0 hM hs
  exact t_v (.quietH hw (by rw [hk]; intro h; cases h) (by rw [hk]; exact h1)) (hT q cp h2)
/-- A slice made, of a length that is no number. -/
theorem t_mkl {E : En α} {x0 : α} {L' : List α} {z bytes : Nat} {zero : List Value} {l c : Operand} {kl kc : IntKind} {n m : Int} (hk : o.k = .mks z bytes zero l c) (hw : wtd σ o.g = some true) (hl : ev σ l = some (.int kl n)) (hc : ev σ c = some (.int kc m)) (hz : E.z = z) (hz0 : 0 < z) (hby : bytes ≤ 32768) (hzero : E.en x0 = zero) (hm : lmk x0 n m = some L')
    (h : ∀ b M, T P N all r (pt σ o.d (.slice (ad (some b)) L'.length (M / z))) (⟨some b, encL E L', M⟩ :: H) S Q) : T P N all (o :: r) σ H S Q := by
  subst hz hzero
  unfold lmk at hm
  split at hm
  · rename_i hb
    obtain rfl := Option.some.inj hm
    obtain ⟨h0, h1, h2⟩ := hb
    have hbb : (bytes : Int) * m ≤ 32768 * 4294967296 := Int.mul_le_mul (by omega) h2 (by omega) (by omega)
    refine t_mks hk hw hl hc h0 h1 (by omega) (by omega) rfl fun b _ _ => ?_
    have hT := h b (m.toNat * E.z)
    rw [List.length_replicate, Nat.mul_div_cancel _ hz0] at hT
    refine t_vs (H' := ⟨some b, encL E (List.replicate n.toNat x0), m.toNat * E.z⟩ :: H) (S' := S) (fun w hH => ?_) hT
    have hmade : ∀ (i : Nat) (v : Value), (encL E (List.replicate n.toNat x0))[i]? = some v → (madeL (E.en x0) (m.toNat * E.z))[i]? = some v := by
      intro i v hv
      have hlt := (List.getElem?_eq_some_iff.1 hv).1
      rw [encL_len, List.length_replicate] at hlt
      have hd : i / E.z < n.toNat := Nat.div_lt_of_lt_mul (by rwa [Nat.mul_comm])
      have hi : i = i / E.z * E.z + i % E.z := by have := Nat.div_add_mod i E.z; rw [Nat.mul_comm] at this; omega
      have hmod : i % E.z < (E.en x0).length := by rw [E.len]; exact Nat.mod_lt _ hz0
      have h3 : (List.replicate n.toNat x0)[i / E.z]? = some x0 := by rw [List.getElem?_replicate, if_pos hd]
      have h4 := encL_at (E := E) h3 (List.getElem?_eq_getElem hmod)
      rw [← hi, hv] at h4
      obtain rfl := Option.some.inj h4
      unfold madeL
      have hlt2 : i < m.toNat * E.z := Nat.lt_of_lt_of_le hlt (Nat.mul_le_mul_right _ (by omega))
      rw [List.getElem?_map, List.getElem?_range hlt2]
      simp only [Option.map_some, E.len]
      rw [List.getD_eq_getElem?_getD, List.getElem?_eq_getElem hmod]
      rfl
    exact ⟨hH.pre hmade (by rw [encL_len, List.length_replicate]; exact Nat.mul_le_mul_right _ (by omega)), (Step.refl _ _ _).names rfl (fun e he => by
      rcases List.mem_cons.1 he with rfl | he
      · exact ⟨_, List.mem_cons_self, rfl⟩
      · exact ⟨e, List.mem_cons_of_mem _ he, rfl⟩)⟩
  · cases hm

/-- An owned list lent for reading. -/
theorem cal_lend {f : FuncId} {args : List Value} {a : Option Nat} {cs : List Value} {n : Nat} {A : List Own} {Qc : Value → List Own → Prop}
    (h : ∀ S' : Seal, (∀ b l, S b = some l → S' b = some l) → (cs = [] ∨ ∃ b, a = some b ∧ S' b = some cs) → Cal P f args A S' fun v H' S'' => Qc v H' ∧ S'' = S') :
    Cal P f args (⟨a, cs, n⟩ :: A) S fun v H' S'' => (∃ H0, H' = ⟨a, cs, n⟩ :: H0 ∧ Qc v H0) ∧ S'' = S := by
  intro w hH
  have hle : ∀ b l, S b = some l → sealed S a cs b = some l := hH.sealB.2.sold
  have hS : cs = [] ∨ ∃ b, a = some b ∧ sealed S a cs b = some cs := by
    by_cases hc : cs = []
    · exact Or.inl hc
    · have := hH.someB (j := 0) rfl hc
      exact Or.inr ⟨bk a, this, by simp only [sealed]; rw [if_pos this]⟩
  refine (h (sealed S a cs) hle hS w hH.sealB.1).mono ?_
  rintro e w' ⟨v, H', S'', rfl, ⟨q, rfl⟩, h1, st⟩
  have hnd := hH.nd
  have hb : ∀ b, a = some b → b ∉ bs A ∧ b < w.heap.size := fun b hb => by
    subst hb
    rw [bs_some, List.nodup_cons] at hnd
    exact ⟨hnd.1, hH.blt (by rw [bs_some]; exact List.mem_cons_self)⟩
  have hb' : ∀ b, a = some b → b ∉ bs H' := fun b hab hm => by
    rcases st.new b hm with g | g
    · exact (hb b hab).1 g
    · have := (hb b hab).2; omega
  have hsub : ∀ b ∈ bs A, b ∈ bs (⟨a, cs, n⟩ :: A) := fun b hm => by obtain ⟨e, he, g⟩ := mem_bs.1 hm; exact mem_bs.2 ⟨e, List.mem_cons_of_mem _ he, g⟩
  refine ⟨v, ⟨a, cs, n⟩ :: H', S, rfl, ⟨⟨H', rfl, q⟩, rfl⟩, ⟨?_, ?_, ?_, fun b l hl => h1.seal_ b l (hle b l hl), fun b hb => ⟨fun hm => ?_, (h1.pl_ b hb).2⟩⟩, ⟨⟨st.ext.os, st.ext.tape, st.ext.output, st.ext.size, fun k hk hO => st.ext.block k hk (fun hm => hO (hsub k hm))⟩, ?_, fun _ _ h => Or.inl h, fun _ _ h => h, rfl⟩⟩
  · intro e he
    rcases List.mem_cons.1 he with rfl | he
    · exact Own.keep (hH.own _ List.mem_cons_self) st.ext (fun b hab => (hb b hab).1)
    · exact h1.own e he
  · cases a with
    | none => simpa [bs] using h1.nd
    | some b => rw [bs_some, List.nodup_cons]; exact ⟨hb' b rfl, h1.nd⟩
  · intro b hm
    obtain ⟨e, he, g⟩ := mem_bs.1 hm
    rcases List.mem_cons.1 he with rfl | he
    · exact hH.dis b (mem_bs.2 ⟨_, List.mem_cons_self, g⟩)
    · have := h1.dis b (mem_bs.2 ⟨e, he, g⟩)
      cases hs : S b with
      | none => rfl
      | some l => rw [hle b l hs] at this; cases this
  · obtain ⟨e, he, g⟩ := mem_bs.1 hm
    rcases List.mem_cons.1 he with rfl | he
    · exact (hH.pl_ b hb).1 (mem_bs.2 ⟨_, List.mem_cons_self, g⟩)
    · exact (h1.pl_ b hb).1 (mem_bs.2 ⟨e, he, g⟩)
  · intro b hm
    obtain ⟨e, he, g⟩ := mem_bs.1 hm
    rcases List.mem_cons.1 he with rfl | he
    · exact Or.inl (mem_bs.2 ⟨_, List.mem_cons_self, g⟩)
    · rcases st.new b (mem_bs.2 ⟨e, he, g⟩) with g | g
      · exact Or.inl (hsub b g)
      · exact Or.inr g
/-- The same, where nothing changes. -/
theorem cal_lendr {f : FuncId} {args : List Value} {a : Option Nat} {cs : List Value} {n : Nat} {A : List Own} {u : Value}
    (h : ∀ S' : Seal, (∀ b l, S b = some l → S' b = some l) → (cs = [] ∨ ∃ b, a = some b ∧ S' b = some cs) → Cal P f args A S' fun v H' S'' => v = u ∧ H' = A ∧ S'' = S') :
    Cal P f args (⟨a, cs, n⟩ :: A) S fun v H' S'' => v = u ∧ H' = ⟨a, cs, n⟩ :: A ∧ S'' = S :=
  (cal_lend (Qc := fun v H' => v = u ∧ H' = A) (n := n) fun S' h1 h2 => (h S' h1 h2).mono fun _ _ _ ⟨x, y, z⟩ => ⟨⟨x, y⟩, z⟩).mono fun _ _ _ ⟨⟨_, x, y, z⟩, q⟩ => ⟨y, by rw [x, z], q⟩
theorem cal_to {f : FuncId} {args : List Value} {A : List Own} {Q Q' : Value → List Own → Seal → Prop} (h : Cal P f args A S Q) (hq : ∀ v H' S', Q v H' S' → Q' v H' S') : Cal P f args A S Q' := h.mono hq
theorem dv_eq {u v : Value} (e : u = v) (h : DV P H S σ o (.v u)) : DV P H S σ o (.v v) := by subst e; exact h
end
end Go.Proofs.YtobjaddicodiaaaDoorE
end

section
/- Lists whose elements lead to lists: what may be read, owned blocks in forests. Own work. -/
namespace Go.Proofs.YtobjaddicodiaaaDoorE
open Go Go.RowKit
set_option linter.unusedVariables false
set_option linter.unusedSimpArgs false

/-- What may be read. -/
abbrev Rd := Nat → List Value → Prop
/-- Out of a forest of owned blocks, or out of what is sealed. -/
def rdOf (F : List Own) (S : Seal) : Rd := fun b l => (∃ e, e ∈ F ∧ e.b = some b ∧ e.cs = l) ∨ S b = some l
/-- How an element lies in memory, where its parts may lead further. -/
structure Nn (T : Type) where
  z : Nat
  rep : Rd → T → List Value → Prop
  len : ∀ {R : Rd} {x : T} {vs : List Value}, rep R x vs → vs.length = z
  oc : ∀ {R : Rd} {x : T} {vs : List Value}, rep R x vs → vs.all (·.oneCell') = true
  mono : ∀ {R R' : Rd} {x : T} {vs : List Value}, (∀ b l, R b l → R' b l) → rep R x vs → rep R' x vs
def flatN {T : Type} (E : En T) : Nn T := ⟨E.z, fun _ x vs => vs = E.en x, fun h => by rw [h]; exact E.len _, fun h => by rw [h]; exact E.oc _, fun _ h => h⟩
/-- A view of readable memory. -/
def SlN {T : Type} (R : Rd) (E : Nn T) (L : List T) (a : Option Addr) : Prop :=
  L = [] ∨ ∃ b o l, a = some ⟨b, o, none⟩ ∧ R b l ∧ ∀ (i : Nat) (x : T), L[i]? = some x → ∃ vs, subl l (o + i * E.z) E.z = some vs ∧ E.rep R x vs
/-- An owned block's cells. -/
structure RL {T : Type} (R : Rd) (E : Nn T) (L : List T) (cs : List Value) : Prop where
  len : cs.length = L.length * E.z
  oc : cs.all (·.oneCell') = true
  at_ : ∀ (i : Nat) (x : T), L[i]? = some x → ∃ vs, subl cs (i * E.z) E.z = some vs ∧ E.rep R x vs
section
variable {T : Type} {R R' : Rd} {E : Nn T} {L X L' : List T} {a : Option Addr} {cs ds vs : List Value} {F F' : List Own} {S S' : Seal} {x : T}
theorem SlN.mono (h : SlN R E L a) (le : ∀ b l, R b l → R' b l) : SlN R' E L a := by
  rcases h with h | ⟨b, o, l, ha, hR, hl⟩
  · exact Or.inl h
  · exact Or.inr ⟨b, o, l, ha, le b l hR, fun i x hx => by obtain ⟨vs, h1, h2⟩ := hl i x hx; exact ⟨vs, h1, E.mono le h2⟩⟩
theorem RL.mono (h : RL R E L cs) (le : ∀ b l, R b l → R' b l) : RL R' E L cs :=
  ⟨h.len, h.oc, fun i x hx => by obtain ⟨vs, h1, h2⟩ := h.at_ i x hx; exact ⟨vs, h1, E.mono le h2⟩⟩
theorem SlN.nil : SlN R E [] a := Or.inl rfl
theorem RL.nil : RL R E [] [] := ⟨by simp, rfl, fun i x h => by simp at h⟩
theorem RL.one (h : E.rep R x vs) : RL R E [x] vs := ⟨by simp [E.len h], E.oc h, fun i y hy => by
  cases i with
  | zero => simp at hy; subst hy; exact ⟨vs, by simpa using subl_all (E.len h), h⟩
  | succ i => simp at hy⟩
theorem subl_left {A B vs : List Value} {o n : Nat} (h : subl A o n = some vs) : subl (A ++ B) o n = some vs := by
  unfold subl at h ⊢
  split at h
  · rename_i hl
    obtain rfl := Option.some.inj h
    rw [if_pos (by simp; omega), List.drop_append_of_le_length (by omega), List.take_append_of_le_length (by simp; omega)]
  · cases h
theorem subl_right {A B vs : List Value} {o n : Nat} (h : subl B o n = some vs) : subl (A ++ B) (A.length + o) n = some vs := by
  unfold subl at h ⊢
  split at h
  · rename_i hl
    obtain rfl := Option.some.inj h
    rw [if_pos (by simp; omega), List.drop_append, List.drop_eq_nil_of_le (by omega), List.nil_append, show A.length + o - A.length = o from by omega]
  · cases h
theorem RL.app (h : RL R E L cs) (g : RL R E X ds) : RL R E (L ++ X) (cs ++ ds) := by
  refine ⟨by rw [List.length_append, List.length_append, h.len, g.len, Nat.add_mul], by rw [List.all_append, h.oc, g.oc]; rfl, fun i x hx => ?_⟩
  by_cases hi : i < L.length
  · rw [List.getElem?_append_left hi] at hx
    obtain ⟨vs, h1, h2⟩ := h.at_ i x hx
    exact ⟨vs, subl_left h1, h2⟩
  · rw [List.getElem?_append_right (by omega)] at hx
    obtain ⟨vs, h1, h2⟩ := g.at_ _ x hx
    refine ⟨vs, ?_, h2⟩
    have := subl_right (A := cs) h1
    rw [h.len, ← Nat.add_mul, show L.length + (i - L.length) = i from by omega] at this
    exact this
theorem RL.lapp (h : RL R E L cs) (g : RL R E X ds) (hl : lapp L X = some L') : RL R E L' (cs ++ ds) := by
  obtain ⟨rfl, _⟩ := lapp_is hl
  exact h.app g
/-- Numbers that are flat. -/
theorem RL.flat {E : En T} : RL R (flatN E) L (encL E L) := ⟨encL_len L, encL_oc L, fun i x hx => ⟨_, by show subl (encL E L) (i * E.z) E.z = _; have := encL_sub (E := E) (off := 0) hx (subl_all (E.len x)); simpa using this, rfl⟩⟩
/-- An owned block, by its own forest. -/
theorem SlN.own {b : Option Nat} (h : RL R E L cs) (hb : cs ≠ [] → b = some (bk b)) (hz : 0 < E.z) (hR : ∀ k, b = some k → R k cs) : SlN R E L (ad b) := by
  by_cases hL : L = []
  · exact Or.inl hL
  · have hc : cs ≠ [] := fun e => by
      have := h.len
      rw [e] at this
      have h2 : 0 < L.length := List.length_pos_iff.2 hL
      have := Nat.mul_pos h2 hz
      simp at *
      omega
    have hb2 := hb hc
    refine Or.inr ⟨bk b, 0, cs, by rw [hb2]; rfl, hR _ hb2, fun i x hx => ?_⟩
    obtain ⟨vs, h1, h2⟩ := h.at_ i x hx
    exact ⟨vs, by simpa using h1, h2⟩
theorem sln_get {i : Int} (h : SlN R E L a) (hx : lgt L i = some x) :
    ∃ b o l vs, a = some ⟨b, o, none⟩ ∧ R b l ∧ subl l (o + i.toNat * E.z) E.z = some vs ∧ E.rep R x vs ∧ 0 ≤ i ∧ i < L.length := by
  obtain ⟨h1, h2, h3⟩ := lgt_in hx
  rcases h with rfl | ⟨b, o, l, ha, hR, hl⟩
  · simp at h1
  · obtain ⟨vs, g1, g2⟩ := hl _ _ h1
    exact ⟨b, o, l, vs, ha, hR, g1, g2, h2, h3⟩
theorem SlE.ofN {E : En T} (h : SlN (rdOf [] S) (flatN E) L a) : SlE S E L a := by
  rcases h with h | ⟨b, o, l, ha, hR, hl⟩
  · exact Or.inl h
  · rcases hR with ⟨e, he, _⟩ | hR
    · cases he
    · exact Or.inr ⟨b, o, l, ha, hR, fun i x hx => by obtain ⟨vs, h1, h2⟩ := hl i x hx; rw [show vs = E.en x from h2] at h1; exact h1⟩
theorem SlE.toN {E : En T} (h : SlE S E L a) : SlN (rdOf F S) (flatN E) L a := by
  rcases h with h | ⟨b, o, l, ha, hR, hl⟩
  · exact Or.inl h
  · exact Or.inr ⟨b, o, l, ha, Or.inr hR, fun i x hx => ⟨_, hl i x hx, rfl⟩⟩

/-! ### readings compared -/
abbrev RdLe (R R' : Rd) : Prop := ∀ b l, R b l → R' b l
theorem rd_refl : RdLe R R := fun _ _ h => h
theorem rd_sub (h : ∀ e, e ∈ F → e ∈ F') : RdLe (rdOf F S) (rdOf F' S) := fun b l hr => hr.imp (fun ⟨e, a, q⟩ => ⟨e, h e a, q⟩) id
theorem rd_nil (h : ∀ b l, S b = some l → S' b = some l) : RdLe (rdOf [] S) (rdOf F' S') := fun b l hr => by
  rcases hr with ⟨e, he, _⟩ | hr
  · cases he
  · exact Or.inr (h b l hr)
theorem rd_app (h1 : ∀ e, e ∈ F → ∀ b, e.b = some b → S' b = some e.cs) (h2 : RdLe (rdOf F' S) (rdOf [] S')) : RdLe (rdOf (F ++ F') S) (rdOf [] S') := fun b l hr => by
  rcases hr with ⟨e, he, hb, hl⟩ | hr
  · rcases List.mem_append.1 he with he | he
    · exact Or.inr (by rw [h1 e he b hb, hl])
    · exact h2 b l (Or.inl ⟨e, he, hb, hl⟩)
  · exact h2 b l (Or.inr hr)
/-- Back, when a forest that was lent is one's own again. -/
theorem rd_back {G : List Own} (h : ∀ b l, S' b = some l → S b = some l ∨ ∃ e, e ∈ G ∧ e.b = some b ∧ e.cs = l) (hF : ∀ e, e ∈ F → e ∈ F') (hG : ∀ e, e ∈ G → e ∈ F') : RdLe (rdOf F S') (rdOf F' S) := fun b l hr => by
  rcases hr with ⟨e, he, q⟩ | hr
  · exact Or.inl ⟨e, hF e he, q⟩
  · rcases h b l hr with h | ⟨e, he, q⟩
    · exact Or.inr h
    · exact Or.inl ⟨e, hG e he, q⟩
theorem rd_1 {H : List Own} {b o : Nat} {l : List Value} {v : Value} (hr : rdOf F S b l) (hF : ∀ e, e ∈ F → e ∈ H) (hv : l[o]? = some v) : R1 H S b o v := by
  rcases hr with ⟨e, he, hb, hl⟩ | hr
  · exact Or.inl ⟨e, hF e he, by rw [hb]; rfl, by rw [hl]; exact hv⟩
  · exact Or.inr ⟨l, hr, hv⟩
theorem rd_n {H : List Own} {b o n : Nat} {l : List Value} {vs : List Value} (hr : rdOf F S b l) (hF : ∀ e, e ∈ F → e ∈ H) (hv : subl l o n = some vs) : Rn H S b o n vs := by
  rcases hr with ⟨e, he, hb, hl⟩ | hr
  · exact Or.inl ⟨e, hF e he, by rw [hb]; rfl, by rw [hl]; exact hv⟩
  · exact Or.inr ⟨l, hr, hv⟩
end

/-! ### blocks and forests in another order -/
inductive HT where
  | l (es : List Own)
  | f (F : List Own)
  | a (x y : HT)
def HT.den : HT → List Own
  | .l es => es
  | .f F => F
  | .a x y => x.den ++ y.den
def HT.flat : HT → List (List Own)
  | .l es => es.map fun e => [e]
  | .f F => [F]
  | .a x y => x.flat ++ y.flat
theorem HT.flat_den : ∀ t : HT, t.flat.flatten = t.den
  | .l es => by
    simp only [flat, den]
    induction es with
    | nil => rfl
    | cons e r ih => rw [List.map_cons, List.flatten_cons, ih]; rfl
  | .f F => by simp [flat, den]
  | .a x y => by simp only [flat, den, List.flatten_append, flat_den x, flat_den y]
def selF : List Nat → List (List Own) → Option (List (List Own) × List (List Own))
  | [], H => some ([], H)
  | i :: is, H => match H[i]? with
    | some e => match selF is (H.eraseIdx i) with
      | some (A, F) => some (e :: A, F)
      | none => none
    | none => none
theorem eiF_perm {α : Type} : ∀ {H : List α} {i : Nat} {e : α}, H[i]? = some e → H.Perm (e :: H.eraseIdx i)
  | [], i, e, h => by simp at h
  | a :: H, 0, e, h => by simp at h; subst h; exact List.Perm.refl _
  | a :: H, i + 1, e, h => by
    simp only [List.getElem?_cons_succ] at h
    exact (List.Perm.cons a (eiF_perm h)).trans (List.Perm.swap e a _)
theorem selF_perm : ∀ {is : List Nat} {H A F : List (List Own)}, selF is H = some (A, F) → H.Perm (A ++ F)
  | [], H, A, F, h => by simp only [selF, Option.some.injEq, Prod.mk.injEq] at h; obtain ⟨rfl, rfl⟩ := h; exact List.Perm.refl _
  | i :: is, H, A, F, h => by
    unfold selF at h
    split at h
    · rename_i e he
      split at h
      · rename_i A' F' hs
        simp only [Option.some.injEq, Prod.mk.injEq] at h
        obtain ⟨rfl, rfl⟩ := h
        exact (eiF_perm he).trans (List.Perm.cons e (selF_perm hs))
      · cases h
    · cases h
/-- All of a tree's blocks as those of two others. -/
theorem tree_perm (t u v : HT) (is : List Nat) (h : selF is t.flat = some (u.flat, v.flat)) : t.den.Perm (u.den ++ v.den) := by
  have := (selF_perm h).flatten
  rw [List.flatten_append, t.flat_den, u.flat_den, v.flat_den] at this
  exact this
theorem VS.tree {S : Seal} (t u v : HT) (is : List Nat) (h : selF is t.flat = some (u.flat, v.flat)) : VS t.den S u.den S := (VS.perm (tree_perm t u v is h)).trans VS.drop
/-- The same, where the rest is not told. -/
def selFA (is : List Nat) (H : List (List Own)) : Option (List (List Own)) := match selF is H with
  | some (A, _) => some A
  | none => none
theorem VS.treeA {S : Seal} (t u : HT) (is : List Nat) (h : selFA is t.flat = some u.flat) : VS t.den S u.den S := by
  unfold selFA at h
  split at h
  · rename_i A F hs
    obtain rfl := Option.some.inj h
    have := (selF_perm hs).flatten
    rw [List.flatten_append, t.flat_den, u.flat_den] at this
    exact (VS.perm this).trans VS.drop
  · cases h

/-- Some of the first n blocks; what follows them stays. -/
def selT (n : Nat) (is : List Nat) (H : List Own) : Option (List Own) := match sel is (H.take n) with
  | some (A, _) => some (A ++ H.drop n)
  | none => none
theorem VS.selT (n : Nat) (is : List Nat) {H H' : List Own} {S : Seal} (h : selT n is H = some H') : VS H S H' S := by
  unfold YtobjaddicodiaaaDoorE.selT at h
  split at h
  · rename_i A F hs
    obtain rfl := Option.some.inj h
    have p : H.Perm ((A ++ H.drop n) ++ F) := by
      have q := sel_perm hs
      rw [← List.take_append_drop n H]
      refine (List.Perm.append_right _ q).trans ?_
      rw [List.append_assoc, List.append_assoc, List.take_append_drop]
      exact List.Perm.append_left _ List.perm_append_comm
    exact (VS.perm p).trans VS.drop
  · cases h

/-! ### a forest lent -/
section
variable {P : Program} {N : Nat} {all : Array Oper} {r : List O} {o : O} {σ : Sl} {H : List Own} {S : Seal} {Q : Pst}
/-- A block lent for reading. -/
theorem cal_lendX {f : FuncId} {args : List Value} {e : Own} {A : List Own} {Qc : Value → List Own → Prop}
    (h : ∀ S' : Seal, (∀ b l, S b = some l → S' b = some l) → S'.pl = S.pl → (∀ b, e.b = some b → S' b = some e.cs) → (e.cs = [] ∨ ∃ b, e.b = some b ∧ S' b = some e.cs) → (∀ b l, S' b = some l → S b = some l ∨ (e.b = some b ∧ e.cs = l)) → Cal P f args A S' fun v H' S'' => Qc v H' ∧ S'' = S') :
    Cal P f args (e :: A) S fun v H' S'' => (∃ H0, H' = e :: H0 ∧ Qc v H0) ∧ S'' = S := by
  obtain ⟨a, cs, n⟩ := e
  intro w hH
  have hle : ∀ b l, S b = some l → sealed S a cs b = some l := hH.sealB.2.sold
  have hS : ∀ b, a = some b → sealed S a cs b = some cs := fun b hb => by simp only [sealed]; rw [if_pos hb]
  have hx : ∀ b l, sealed S a cs b = some l → S b = some l ∨ (a = some b ∧ cs = l) := fun b l hb => by
    simp only [sealed] at hb
    split at hb
    · rename_i e1; exact Or.inr ⟨e1, Option.some.inj hb⟩
    · exact Or.inl hb
  have hS2 : cs = [] ∨ ∃ b, a = some b ∧ sealed S a cs b = some cs := by
    by_cases hc : cs = []
    · exact Or.inl hc
    · have := hH.someB (j := 0) rfl hc
      exact Or.inr ⟨bk a, this, hS _ this⟩
  refine (h (sealed S a cs) hle rfl hS hS2 hx w hH.sealB.1).mono ?_
  rintro e w' ⟨v, H', S'', rfl, ⟨q, rfl⟩, h1, st⟩
  have hnd := hH.nd
  have hb : ∀ b, a = some b → b ∉ bs A ∧ b < w.heap.size := fun b hb => by
    subst hb
    rw [bs_some, List.nodup_cons] at hnd
    exact ⟨hnd.1, hH.blt (by rw [bs_some]; exact List.mem_cons_self)⟩
  have hb' : ∀ b, a = some b → b ∉ bs H' := fun b hab hm => by
    rcases st.new b hm with g | g
    · exact (hb b hab).1 g
    · have := (hb b hab).2; omega
  have hsub : ∀ b ∈ bs A, b ∈ bs (⟨a, cs, n⟩ :: A) := fun b hm => by obtain ⟨e, he, g⟩ := mem_bs.1 hm; exact mem_bs.2 ⟨e, List.mem_cons_of_mem _ he, g⟩
  refine ⟨v, ⟨a, cs, n⟩ :: H', S, rfl, ⟨⟨H', rfl, q⟩, rfl⟩, ⟨?_, ?_, ?_, fun b l hl => h1.seal_ b l (hle b l hl), fun b hb => ⟨fun hm => ?_, (h1.pl_ b hb).2⟩⟩, ⟨⟨st.ext.os, st.ext.tape, st.ext.output, st.ext.size, fun k hk hO => st.ext.block k hk (fun hm => hO (hsub k hm))⟩, ?_, fun _ _ h => Or.inl h, fun _ _ h => h, rfl⟩⟩
  · intro e he
    rcases List.mem_cons.1 he with rfl | he
    · exact Own.keep (hH.own _ List.mem_cons_self) st.ext (fun b hab => (hb b hab).1)
    · exact h1.own e he
  · cases a with
    | none => simpa [bs] using h1.nd
    | some b => rw [bs_some, List.nodup_cons]; exact ⟨hb' b rfl, h1.nd⟩
  · intro b hm
    obtain ⟨e, he, g⟩ := mem_bs.1 hm
    rcases List.mem_cons.1 he with rfl | he
    · exact hH.dis b (mem_bs.2 ⟨_, List.mem_cons_self, g⟩)
    · have := h1.dis b (mem_bs.2 ⟨e, he, g⟩)
      cases hs : S b with
      | none => rfl
      | some l => rw [hle b l hs] at this; cases this
  · obtain ⟨e, he, g⟩ := mem_bs.1 hm
    rcases List.mem_cons.1 he with rfl | he
    · exact (hH.pl_ b hb).1 (mem_bs.2 ⟨_, List.mem_cons_self, g⟩)
    · exact (h1.pl_ b hb).1 (mem_bs.2 ⟨e, he, g⟩)
  · intro b hm
    obtain ⟨e, he, g⟩ := mem_bs.1 hm
    rcases List.mem_cons.1 he with rfl | he
    · exact Or.inl (mem_bs.2 ⟨_, List.mem_cons_self, g⟩)
    · rcases st.new b (mem_bs.2 ⟨e, he, g⟩) with g | g
      · exact Or.inl (hsub b g)
      · exact Or.inr g
theorem cal_lendF {f : FuncId} {args : List Value} {Qc : Value → List Own → Prop} : ∀ (F : List Own) {S : Seal} {A : List Own},
    (∀ S' : Seal, (∀ b l, S b = some l → S' b = some l) → S'.pl = S.pl → (∀ e, e ∈ F → ∀ b, e.b = some b → S' b = some e.cs) → (∀ e, e ∈ F → e.cs = [] ∨ ∃ b, e.b = some b ∧ S' b = some e.cs) → (∀ b l, S' b = some l → S b = some l ∨ ∃ e, e ∈ F ∧ e.b = some b ∧ e.cs = l) → Cal P f args A S' fun v H' S'' => Qc v H' ∧ S'' = S') →
    Cal P f args (F ++ A) S fun v H' S'' => (∃ H0, H' = F ++ H0 ∧ Qc v H0) ∧ S'' = S
  | [], S, A, h => (h S (fun _ _ h => h) rfl (fun e he => by cases he) (fun e he => by cases he) (fun _ _ h => Or.inl h)).mono fun v H' S'' ⟨a, b⟩ => ⟨⟨H', rfl, a⟩, b⟩
  | e :: F, S, A, h => by
    intro w hH
    have hS1 : ∀ b l, S b = some l → sealed S e.b e.cs b = some l := hH.sealB.2.sold
    have hdis : ∀ b, e.b = some b → S b = none := fun b hb => hH.dis b (mem_bs.2 ⟨e, List.mem_cons_self, hb⟩)
    refine (cal_lendX (e := e) (A := F ++ A) (Qc := fun v H' => ∃ H0, H' = F ++ H0 ∧ Qc v H0) (fun S1 le1 hp1 hs1 hn1 ex1 => ?_) w hH).mono ?_
    · refine cal_lendF F (S := S1) (A := A) fun S' le hp hs hn ex => h S' (fun b l hb => le b l (le1 b l hb)) (hp.trans hp1) ?_ ?_ ?_
      · intro e' he' b hb
        rcases List.mem_cons.1 he' with rfl | he'
        · exact le b _ (hs1 b hb)
        · exact hs e' he' b hb
      · intro e' he'
        rcases List.mem_cons.1 he' with rfl | he'
        · exact hn1.imp id (fun ⟨b, q1, q2⟩ => ⟨b, q1, le b _ q2⟩)
        · exact hn e' he'
      · intro b l hb
        rcases ex b l hb with hb | ⟨e', he', q⟩
        · rcases ex1 b l hb with hb | ⟨hb, hl⟩
          · exact Or.inl hb
          · exact Or.inr ⟨e, List.mem_cons_self, hb, hl⟩
        · exact Or.inr ⟨e', List.mem_cons_of_mem _ he', q⟩
    · rintro ex w' ⟨v, H', S', hv, ⟨⟨H0, rfl, H1, rfl, q⟩, rfl⟩, a, b⟩
      exact ⟨v, _, _, hv, ⟨⟨H1, rfl, q⟩, rfl⟩, a, b⟩
/-- The same, where nothing changes. -/
theorem cal_lendFr {f : FuncId} {args : List Value} {u : Value} (F : List Own) {S : Seal} {A : List Own}
    (h : ∀ S' : Seal, (∀ b l, S b = some l → S' b = some l) → S'.pl = S.pl → (∀ e, e ∈ F → ∀ b, e.b = some b → S' b = some e.cs) → (∀ e, e ∈ F → e.cs = [] ∨ ∃ b, e.b = some b ∧ S' b = some e.cs) → (∀ b l, S' b = some l → S b = some l ∨ ∃ e, e ∈ F ∧ e.b = some b ∧ e.cs = l) → Cal P f args A S' fun v H' S'' => v = u ∧ H' = A ∧ S'' = S') :
    Cal P f args (F ++ A) S fun v H' S'' => v = u ∧ H' = F ++ A ∧ S'' = S :=
  (cal_lendF (Qc := fun v H' => v = u ∧ H' = A) F fun S' h1 h0 h2 h3 h4 => (h S' h1 h0 h2 h3 h4).mono fun _ _ _ ⟨x, y, z⟩ => ⟨⟨x, y⟩, z⟩).mono fun _ _ _ ⟨⟨_, x, y, z⟩, q⟩ => ⟨y, by rw [x, z], q⟩
/-- What may be read of what is lent. -/
theorem rd_lend {F G : List Own} {S' : Seal} (hs : ∀ e, e ∈ G → ∀ b, e.b = some b → S' b = some e.cs) (le : ∀ b l, S b = some l → S' b = some l) (hF : ∀ e, e ∈ F → e ∈ G) : RdLe (rdOf F S) (rdOf [] S') := fun b l hr => by
  rcases hr with ⟨e, he, hb, hl⟩ | hr
  · exact Or.inr (by rw [hs e (hF e he) b hb, hl])
  · exact Or.inr (le b l hr)
theorem sub_nil {F : List Own} : ∀ e, e ∈ ([] : List Own) → e ∈ F := fun _ h => by cases h
theorem sub_cons {x : Own} {F G : List Own} (h : x ∈ G) (t : ∀ e, e ∈ F → e ∈ G) : ∀ e, e ∈ x :: F → e ∈ G := fun e he => by
  rcases List.mem_cons.1 he with rfl | he
  · exact h
  · exact t e he
theorem sub_app {A F G : List Own} (h : ∀ e, e ∈ A → e ∈ G) (t : ∀ e, e ∈ F → e ∈ G) : ∀ e, e ∈ A ++ F → e ∈ G := fun e he => (List.mem_append.1 he).elim (h e) (t e)
theorem seg_hd {F X : List Own} : ∀ e, e ∈ F → e ∈ F ++ X := fun _ h => List.mem_append_left _ h
theorem seg_tl {F A X : List Own} (h : ∀ e, e ∈ F → e ∈ X) : ∀ e, e ∈ F → e ∈ A ++ X := fun e he => List.mem_append_right _ (h e he)
theorem seg_in {F X G : List Own} (n : Nat) (h : G.drop n = X) (g : ∀ e, e ∈ F → e ∈ X) : ∀ e, e ∈ F → e ∈ G := fun e he => List.mem_of_mem_drop (i := n) (by rw [h]; exact g e he)
theorem mem_at {x : Own} {G : List Own} (i : Nat) (h : G[i]? = some x) : x ∈ G := List.mem_of_getElem? h
/-- A state of a region that draws is met. -/
theorem t_fin (L : List Nat) {G : Sl → List Own → Prop} {σ' : Sl} (g : G σ' H) (e : keep L σ = σ') : T P N all [] σ H S fun σ1 H1 S1 => G σ1 H1 ∧ S1 = S := t_keep L e (t_end ⟨g, rfl⟩)
theorem t_finq (L : List Nat) {G : Sl → List Own → Prop} {σ' : Sl} (g : G σ' H) (e : kpo L (qz [] S 1 [o] σ) = some σ') : T P N all [o] σ H S fun σ1 H1 S1 => G σ1 H1 ∧ S1 = S := t_qz 1 L e (t_end ⟨g, rfl⟩)
def evl (σ : Sl) (z : List Value) (ps : List (Nat × Nat × Operand)) : Option (List Value) := match evp σ ps with
  | some vs => lay z vs
  | none => none
theorem dv_bsl {z cs : List Value} {n : Nat} {ps : List (Nat × Nat × Operand)} (hw : wtd σ o.g = some true) (h : o.k = .bsl z n ps) (e : evl σ z ps = some cs) : DV P H S σ o (.a cs (slTo n)) := by
  unfold evl at e
  split at e
  · rename_i vs hv
    exact .bsl hw h hv e
  · cases e
theorem t_someB (j : Nat) {a : Option Nat} {cs : List Value} {M : Nat} {ops : List O} (he : H[j]? = some ⟨a, cs, M⟩) (h : (cs ≠ [] → a = some (bk a)) → T P N all ops σ H S Q) : T P N all ops σ H S Q :=
  t_pure (fun w hH => HOK.someB hH he) h
theorem w_someB (j : Nat) {a : Option Nat} {cs : List Value} {M : Nat} {c : C} {Qs : Qst} (he : H[j]? = some ⟨a, cs, M⟩) (h : (cs ≠ [] → a = some (bk a)) → W P N c σ H S Qs) : W P N c σ H S Qs :=
  w_pure (fun w hH => HOK.someB hH he) h

/-- Longer by elements that may lead further. -/
theorem t_appN {α : Type} {R : Rd} {E : Nn α} {L X L' : List α} {cs ds : List Value} {e : TypeId} {z bytes m c M b2 k2 : Nat} {zero : List Value} {a : Option Nat} {F : List Own} {x y : Operand} (hk : o.k = .app e z bytes zero x y) (hw : wtd σ o.g = some true) (hx : ev σ x = some (.slice (ad a) L.length (M / z))) (hy : ev σ y = some (.slice (some ⟨b2, k2, none⟩) m c))
    (hp : H.Perm ([⟨a, cs, M⟩] ++ F)) (hL : RL R E L cs) (hX : RL R E X ds) (hm : m = X.length) (h0 : 0 < m) (hn : Rn H S b2 k2 (m * z) ds) (hz : E.z = z) (hz0 : 0 < z) (hby : bytes ≤ 32768) (hzz : zero.length = z) (hl : lapp L X = some L')
    (h : ∀ a' M' cs', RL R E L' cs' → T P N all r (pt σ o.d (.slice (ad a') L'.length (M' / z))) (⟨a', cs', M'⟩ :: F) S Q) : T P N all (o :: r) σ H S Q := by
  have happ := hL.lapp hX hl
  subst hz hm
  obtain ⟨rfl, hb⟩ := lapp_is hl
  have hbb : (L.length + X.length) * bytes ≤ 4294967296 * 32768 := Nat.mul_le_mul hb hby
  have hlen : (L ++ X).length = L.length + X.length := List.length_append
  cases a with
  | none =>
    refine t_pure (p := cs = [] ∧ M = 0) (fun w hH => (hH.perm hp).noB (j := 0) rfl) fun hq => ?_
    obtain ⟨rfl, rfl⟩ := hq
    have hL0 : L = [] := by
      have := hL.len
      simp only [List.length_nil] at this
      rcases Nat.mul_eq_zero.1 this.symm with g | g
      · exact List.length_eq_zero_iff.1 g
      · omega
    subst hL0
    have h1 : X.length * bytes ≤ 281474976710656 := by simp only [List.length_nil, Nat.zero_add] at hbb; omega
    refine t_app0 hk hw (by rw [hx]; simp [ad]) hy hn h0 (by simp only [List.length_nil, Nat.zero_add] at hb; omega) h1 hzz fun b n _ _ => ?_
    have hT := h (some b) n _ happ
    refine t_vs (H' := ⟨some b, [] ++ ds, n⟩ :: F) (S' := S) ?_ hT
    refine VS.cons ((VS.perm (hp.trans List.perm_append_comm)).trans VS.drop)
  | some b =>
    refine t_app1 hk hw hx hy hp hn hX.oc hL.len rfl (by omega) (by omega) hzz fun b' M' => ?_
    have hT := h (some b') M' _ happ
    rw [hlen] at hT
    exact hT
end
end Go.Proofs.YtobjaddicodiaaaDoorE
end

section
/- Errors that package variables hold: a code for each. Own work. -/
namespace Go.Proofs.YtobjaddicodiaaaDoorE
open Go Go.RowKit
set_option linter.unusedVariables false
set_option linter.unusedSimpArgs false
/-- An error by its code: 0 is nil; g + 1 is what variable g holds: a pointer of type T to a place of its own. -/
def errV (T : TypeId) (A : Int → Addr) (c : Int) : Value := if c = 0 then .nilIface else .iface T (.pointer (some (A c)))
structure EO (gs : List Nat) (S : Seal) (A : Int → Addr) (T : TypeId) : Prop where
  cell : ∀ g, g ∈ gs → ∃ l, S g = some l ∧ l[0]? = some (.iface T (.pointer (some (A ((g : Int) + 1)))))
  pl : ∀ g, g ∈ gs → S.pl (A ((g : Int) + 1)).block
  inj : ∀ g, g ∈ gs → ∀ h, h ∈ gs → A ((g : Int) + 1) = A ((h : Int) + 1) → g = h
theorem EO.at_ {gs : List Nat} {S : Seal} {A : Int → Addr} {T : TypeId} (h : EO gs S A T) {H : List Own} (g : Nat) (hg : g ∈ gs) : R1 H S g 0 (.iface T (.pointer (some (A ((g : Int) + 1))))) := by
  obtain ⟨l, h1, h2⟩ := h.cell g hg
  exact .sealed h1 h2
theorem EO.atc {gs : List Nat} {S : Seal} {A : Int → Addr} {T : TypeId} (h : EO gs S A T) {H : List Own} (g : Nat) (c : Int) (hg : g ∈ gs) (hc : (g : Int) + 1 = c) : R1 H S g 0 (.iface T (.pointer (some (A c)))) := by subst hc; exact h.at_ g hg
theorem EO.mono {gs : List Nat} {S S' : Seal} {A : Int → Addr} {T : TypeId} (h : EO gs S A T) (le : ∀ b l, S b = some l → S' b = some l) (hp : S'.pl = S.pl) : EO gs S' A T :=
  ⟨fun g hg => by obtain ⟨l, h1, h2⟩ := h.cell g hg; exact ⟨l, le _ _ h1, h2⟩, fun g hg => by rw [hp]; exact h.pl g hg, h.inj⟩
def isI (P : Program) (t : TypeId) : Bool := match P.underlying t with
  | some (.interface _) => true
  | _ => false
theorem eqErr {P : Program} {t : TypeId} {x y : Operand} {A : Int → Addr} {T : TypeId} {c : Int} (hu : isI P t = true) (hc : isC y = true) : eqV P t x y (errV T A c) .nilIface = some (c == 0) := by
  unfold isI at hu
  split at hu
  · rename_i ms hm
    unfold errV
    by_cases h : c = 0
    · rw [if_pos h]; subst h; simp [eqV, hm, hc]
    · rw [if_neg h]; simp [eqV, hm, h]
  · cases hu
/-- A type of pointers to what has a size, held at an interface's type. -/
def ptrT (P : Program) (t T : TypeId) : Bool := match P.underlying t, P.underlying T, P.info? T with
  | some (.interface _), some (.pointer e), some i => i.comparable && (match P.info? e with
    | some j => j.size != 0
    | none => false)
  | _, _, _ => false
theorem ptrT_is {P : Program} {t T : TypeId} (h : ptrT P t T = true) : ∃ ms e i j, P.underlying t = some (.interface ms) ∧ P.underlying T = some (.pointer e) ∧ P.info? T = some i ∧ i.comparable = true ∧ P.info? e = some j ∧ j.size ≠ 0 := by
  unfold ptrT at h
  split at h
  · rename_i ms e i h1 h2 h3
    simp only [Bool.and_eq_true] at h
    obtain ⟨h4, h5⟩ := h
    split at h5
    · rename_i j h6
      exact ⟨ms, e, i, j, h1, h2, h3, h4, h6, by simpa using h5⟩
    · cases h5
  · cases h
theorem eqp_same {P : Program} {S : Seal} {t T : TypeId} {a : Addr} (h : ptrT P t T = true) : EqP P S t (.iface T (.pointer (some a))) (.iface T (.pointer (some a))) true := by
  obtain ⟨ms, e, i, j, h1, h2, h3, h4, h5, _⟩ := ptrT_is h
  exact ⟨⟨_, _, _, _, rfl, rfl⟩, fun w hp => run_equalIn_iface_ptr_same w 9998 a h1 h2 h3 h4 h5⟩
theorem eqp_other {P : Program} {S : Seal} {t T : TypeId} {gs : List Nat} {A : Int → Addr} (hE : EO gs S A T) (g k : Nat) (hg : g ∈ gs) (hk : k ∈ gs) (hne : g ≠ k) (h : ptrT P t T = true) : EqP P S t (.iface T (.pointer (some (A ((g : Int) + 1))))) (.iface T (.pointer (some (A ((k : Int) + 1))))) false := by
  obtain ⟨ms, e, i, j, h1, h2, h3, h4, h5, h6⟩ := ptrT_is h
  refine ⟨⟨_, _, _, _, rfl, rfl⟩, fun w hp => ?_⟩
  obtain ⟨ca, ta, ha⟩ := hp _ (hE.pl g hg)
  obtain ⟨cb, tb, hb⟩ := hp _ (hE.pl k hk)
  exact run_equalIn_iface_ptr_other w 9998 h1 h2 h3 h4 h5 h6 (fun he => hne (hE.inj g hg k hk he)) ha hb
theorem eqp_otherc {P : Program} {S : Seal} {t T : TypeId} {gs : List Nat} {A : Int → Addr} (hE : EO gs S A T) (g k : Nat) (c d : Int) (hg : g ∈ gs) (hk : k ∈ gs) (hne : g ≠ k) (hc : (g : Int) + 1 = c) (hd : (k : Int) + 1 = d) (h : ptrT P t T = true) : EqP P S t (.iface T (.pointer (some (A c)))) (.iface T (.pointer (some (A d)))) false := by
  subst hc hd
  exact eqp_other hE g k hg hk hne h
/-- A code that is listed. -/
def isL (gs : List Nat) (c : Int) : Bool := gs.any fun g => (g : Int) + 1 == c
theorem isL_is {gs : List Nat} {c : Int} (h : ¬ isL gs c = false) : ∃ g, g ∈ gs ∧ (g : Int) + 1 = c := by
  unfold isL at h
  simpa using h
theorem eqp_sym {P : Program} {S : Seal} {t T : TypeId} {gs : List Nat} {A : Int → Addr} (hE : EO gs S A T) {c d : Int} (hc : ¬ isL gs c = false) (hd : ¬ isL gs d = false) (h : ptrT P t T = true) : EqP P S t (errV T A c) (errV T A d) (c == d) := by
  obtain ⟨g, hg, rfl⟩ := isL_is hc
  obtain ⟨k, hk, rfl⟩ := isL_is hd
  have e1 : errV T A ((g : Int) + 1) = .iface T (.pointer (some (A ((g : Int) + 1)))) := if_neg (by omega)
  have e2 : errV T A ((k : Int) + 1) = .iface T (.pointer (some (A ((k : Int) + 1)))) := if_neg (by omega)
  rw [e1, e2]
  by_cases hgk : g = k
  · subst hgk
    rw [beq_self_eq_true]
    exact eqp_same h
  · rw [show ((g : Int) + 1 == (k : Int) + 1) = false from by simp; omega]
    exact eqp_other hE g k hg hk hgk h
section
variable {P : Program} {H : List Own} {S : Seal} {σ : Sl} {o : O}
theorem dv_tas {t T : TypeId} {z : Value} {x : Operand} {A : Int → Addr} {c : Int} (hw : wtd σ o.g = some true) (hk : o.k = .tas t true z x) (hx : ev σ x = some (errV T A c)) (hne : T ≠ t) : DV P H S σ o (.v (.tuple #[z, .bool false])) := by
  refine dv_quiet hw ?_
  rw [hk]
  simp only [qv]
  rw [hx]
  unfold errV
  split
  · rename_i u v he
    split at he
    · cases he
    · simp only [Option.some.injEq, Value.iface.injEq] at he
      obtain ⟨rfl, _⟩ := he
      rw [if_neg hne]
      rfl
  · rfl
  · rename_i h1 h2
    split at h1 <;> split at h2 <;> first | exact absurd rfl (h2 _) | (exfalso; simp_all)
end
end Go.Proofs.YtobjaddicodiaaaDoorE
end

section
/- A law's errors out of what its card lays. Own work. -/
namespace Go.Proofs.YtobjaddicodiaaaDoorE
open Go Go.RowKit
set_option linter.unusedVariables false
set_option linter.unusedSimpArgs false
/-- Variables that are laid as errors of one make. -/
inductive LS (P : Program) (ti : TypeId) (nm : String) : List Nat → List (String × DataW Unit) → Prop
  | nil : LS P ti nm [] []
  | cons {n : String} {g : Nat} {t : List UInt8} {gs : List Nat} {r : List (String × DataW Unit)} (h1 : P.globalNamed n = some g) (h2 : (P.globals[g]?).map (·.type) = some ti) (h : LS P ti nm gs r) : LS P ti nm (g :: gs) ((n, .iface nm (.ptr (.agg [.lit (.string t)]))) :: r)
structure ST (P : Program) (ti tp : TypeId) (nm : String) : Prop where
  ex : ∃ (te ts : TypeId) (ms : Array (String × TypeId)) (f : Field), P.underlying ti = some (.interface ms) ∧ (∀ u, P.typeName? 3 u = some nm → u = tp) ∧ P.underlying tp = some (.pointer te) ∧ P.underlying te = some (.struct #[f]) ∧ f.type = ts ∧ f.offset = 0 ∧ P.underlying ts = some .string ∧ P.cellsOf te = 1 ∧ P.cellsOf ts = 1
def plc (x : Nat × Addr) : List MemPlace := [.cell x.1 0, .cell x.2.block x.2.off]
theorem ls_open {P : Program} {ti tp : TypeId} {nm : String} {W : World} (hT : ST P ti tp nm) : ∀ {gs : List Nat} {laid : List (String × DataW Unit)} {ps : List MemPlace}, LS P ti nm gs laid → DataW.LaidVars P W laid ps →
    (∀ b off, MemPlace.cell b off ∈ ps → (∃ c t, W.heap[b]? = some (.cells c t (0, 0))) ∧ ∀ u v, W.cell? ⟨b, off, none⟩ = some (.iface u v) → Value.okWide P W .any 0 u v) →
    ∃ as : List Addr, as.length = gs.length ∧ ps = (gs.zip as).flatMap plc ∧ ∀ x ∈ gs.zip as, W.cell? ⟨x.1, 0, none⟩ = some (.iface tp (.pointer (some x.2))) ∧ ∃ s, W.cell? x.2 = some (.string s)
  | [], _, ps, .nil, h, _ => ⟨[], rfl, by simpa [DataW.LaidVars] using h, by simp⟩
  | g :: gs, _, ps, .cons h1 h2 hr, h, hok => by
    obtain ⟨g', t', cs, fuel, p, q, e1, e2, hv, hd, hq, rfl⟩ := h
    obtain rfl := Option.some.inj (h1.symm.trans e1)
    obtain rfl := Option.some.inj (h2.symm.trans e2)
    obtain ⟨te, ts, ms, f, t1, t2, t3, t4, t5, t6, t7, t8, t9⟩ := hT.ex
    have hcs : ∃ u v, cs.toList = [.iface u v] := by
      obtain ⟨_, u, v, e, _⟩ := iface_of_trod t1 hd
      exact ⟨u, v, e⟩
    obtain ⟨u, v, hcs⟩ := hcs
    have hsz : cs.size = 1 := by have := congrArg List.length hcs; simpa using this
    have hcell : ∀ off, W.cell? ⟨g, off, none⟩ = cs[off]? := fun off => World.var?_cell h1 hv off
    have hc0 : W.cell? ⟨g, 0, none⟩ = some (.iface u v) := by
      rw [hcell, ← Array.getElem?_toList, hcs]
      rfl
    obtain ⟨a, s, ha, hs, _, _, rfl⟩ := errorString_of_trod t1 t2 t3 t4 t5 t6 t7 t8 t9 hd (fun u' v' e => (hok g 0 (by simp [MemPlace.row, hsz])).2 u' v' (by rw [hc0]; rw [hcs] at e; simp at e; simp [e]))
    obtain ⟨as, k1, rfl, k3⟩ := ls_open hT hr hq (fun b off hm => hok b off (List.mem_append_right _ hm))
    rw [hcs] at ha
    obtain ⟨rfl, rfl⟩ : u = tp ∧ v = .pointer (some a) := by simpa using ha
    refine ⟨a :: as, by simp [k1], ?_, ?_⟩
    · simp [plc, MemPlace.row, hsz, List.range_succ]
    · intro x hx
      rcases List.mem_cons.1 hx with rfl | hx
      · exact ⟨hc0, s, hs⟩
      · exact k3 x hx
theorem nodup_apart {α β : Type} {f : α → List β} {x y : α} {z : β} : ∀ {l : List α}, (l.flatMap f).Nodup → x ∈ l → y ∈ l → x ≠ y → z ∈ f x → z ∈ f y → False
  | [], _, h, _, _, _, _ => by cases h
  | u :: l, hn, hx, hy, hne, zx, zy => by
    rw [List.flatMap_cons, List.nodup_append] at hn
    obtain ⟨n1, n2, n3⟩ := hn
    rcases List.mem_cons.1 hx with rfl | hx1 <;> rcases List.mem_cons.1 hy with rfl | hy1
    · exact hne rfl
    · exact n3 z zx z (List.mem_flatMap.2 ⟨y, hy1, zy⟩) rfl
    · exact n3 z zy z (List.mem_flatMap.2 ⟨x, hx1, zx⟩) rfl
    · exact nodup_apart n2 hx1 hy1 hne zx zy
theorem mem_zip_of {α β : Type} : ∀ {l : List α} {m : List β} {a : α}, m.length = l.length → a ∈ l → ∃ b, (a, b) ∈ l.zip m
  | [], _, _, _, h => by cases h
  | x :: l, [], _, hl, _ => by simp at hl
  | x :: l, y :: m, a, hl, h => by
    rcases List.mem_cons.1 h with rfl | h
    · exact ⟨y, by simp⟩
    · obtain ⟨b, hb⟩ := mem_zip_of (m := m) (by simpa using hl) h
      exact ⟨b, by simp [hb]⟩
/-- The errors' codes and places, of a world that lays them. -/
theorem eo_laid {P : Program} {ti tp : TypeId} {nm : String} {W : World} {gs : List Nat} {laid : List (String × DataW Unit)} (hT : ST P ti tp nm) (hl : LS P ti nm gs laid) (h : laidMet P laid W) :
    ∃ (pl : Nat → Prop) (A : Int → Addr), HOK [] (sealW W pl) W ∧ EO gs (sealW W pl) A tp := by
  classical
  obtain ⟨ps, hv, hnd, hok⟩ := h
  obtain ⟨as, k1, rfl, k3⟩ := ls_open hT hl hv hok
  have hz : ∀ g, g ∈ gs → ∃ a, (g, a) ∈ gs.zip as := fun g hg => mem_zip_of k1 hg
  let A : Int → Addr := fun c => if hc : ∃ a, (c.toNat - 1, a) ∈ gs.zip as then hc.choose else ⟨0, 0, none⟩
  have hA : ∀ g, g ∈ gs → (g, A ((g : Int) + 1)) ∈ gs.zip as := by
    intro g hg
    have e : ((g : Int) + 1).toNat - 1 = g := by omega
    have hc : ∃ a, (((g : Int) + 1).toNat - 1, a) ∈ gs.zip as := by rw [e]; exact hz g hg
    have : A ((g : Int) + 1) = hc.choose := dif_pos hc
    rw [this]
    have hs := hc.choose_spec
    generalize hc.choose = q at hs ⊢
    rw [e] at hs
    exact hs
  have hpl : ∀ g, g ∈ gs → ∃ c t, W.heap[(A ((g : Int) + 1)).block]? = some (.cells c t (0, 0)) := fun g hg => (hok _ (A ((g : Int) + 1)).off (List.mem_flatMap.2 ⟨_, hA g hg, by simp [plc]⟩)).1
  refine ⟨fun b => ∃ g, g ∈ gs ∧ (A ((g : Int) + 1)).block = b, A, hokW fun b hb => ?_, ⟨fun g hg => ?_, fun g hg => ⟨g, hg, rfl⟩, fun g hg k hk he => ?_⟩⟩
  · obtain ⟨g, hg, rfl⟩ := hb
    obtain ⟨c, t, hc⟩ := hpl g hg
    exact ⟨c, t, hc⟩
  · have hc := (k3 _ (hA g hg)).1
    obtain ⟨c, T, z, h1, _, h2⟩ := cell_block hc
    exact ⟨c.toList, sealW_at h1, by simpa using h2⟩
  · by_cases hgk : g = k
    · exact hgk
    · exfalso
      refine nodup_apart (f := plc) (x := (g, A ((g : Int) + 1))) (y := (k, A ((k : Int) + 1))) (z := .cell (A ((g : Int) + 1)).block (A ((g : Int) + 1)).off) hnd (hA g hg) (hA k hk) (fun e => hgk (Prod.mk.inj e).1) (by simp [plc]) (by rw [he]; simp [plc])
end Go.Proofs.YtobjaddicodiaaaDoorE
end
