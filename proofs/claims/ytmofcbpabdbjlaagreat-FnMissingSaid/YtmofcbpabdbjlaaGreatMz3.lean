/-
  What is proved: a rule for a region that draws its order: each operation is said by itself, from those that it hangs on; no order is gone through.
  Condition: none beyond those of the theorems.
-/
import Derived.Orders
import Derived.Test.YtmofcbpabdbjlaaGreatMz1
namespace Go.Proofs.YtmofcbpabdbjlaaGreat.J

set_option maxRecDepth 8000

open Go

set_option linter.unusedSimpArgs false

set_option linter.unusedVariables false

/-- no way out but the plain one -/
def noQ : Exit → Act → World → Prop := fun _ _ _ => False

/-- the outcome of one operation under a reading ρ of its operands: its value and the world behind meet R -/
def OpR (P : Program) (o : Oper) (ρ : Operand → Value) (w : World) (R : Value → World → Prop) : Prop :=
  match (execOp ρ o).run P w with
  | .ok (.value v) w' => R v w'
  | .ok .skip w' => R undef w'
  | .ok (.enter f args) w' => Calls P f args w' fun e w'' => match e with | .returned v => R v w'' | _ => False
  | .ok (.row row args) w' => Rows P row args w' R
  | _ => False

section

variable {P : Program} {ops : Array Oper} {Q : Exit → Act → World → Prop} {md : Region.Mode}

theorem OpR.wp {o : Oper} {a : Act} {w : World} {R : Value → World → Prop} {K : Act → World → Prop}
    (h : OpR P o a.eval w R) (hK : ∀ v w', R v w' → K (a.put o.dst v) w') : o.wp P a w K Q := by
  unfold Oper.wp OpR at *
  generalize (execOp a.eval o).run P w = r at *
  cases r with
  | ok n w' =>
    cases n <;> simp only [Oper.upon] at h ⊢ <;> first
      | exact h.elim
      | exact hK _ _ h
      | exact Rows.mono h fun u w'' he => hK _ _ he
      | (refine Calls.mono h fun e w'' he => ?_
         cases e <;> first
           | exact hK _ _ he
           | exact he.elim)
  | halt x w' => exact h.elim

theorem put_inj {a : Act} {d : Tmp} {v v' : Value} (hd : d < a.tmps.size) (h : a.put (some d) v = a.put (some d) v') : v = v' := by
  have h1 : (a.put (some d) v).tmps[d]? = (a.put (some d) v').tmps[d]? := by rw [h]
  simpa [Act.put, hd] using h1

theorem OpR.of_wp {o : Oper} {a : Act} {w : World} {R : Value → World → Prop} {d : Tmp} (hd : o.dst = some d) (hs : d < a.tmps.size)
    (h : o.wp P a w (fun a' w' => ∃ v, a' = a.put (some d) v ∧ R v w') noQ) : OpR P o a.eval w R := by
  unfold Oper.wp OpR at *
  have hl : ¬ LetsOut noQ := fun ⟨_, _, h⟩ => h
  generalize (execOp a.eval o).run P w = r at *
  cases r with
  | ok n w' =>
    cases n <;> simp only [Oper.upon, hd] at h ⊢
    case value v => obtain ⟨v', e, hr⟩ := h; rw [put_inj hs e]; exact hr
    case skip => obtain ⟨v', e, hr⟩ := h; rw [put_inj hs e]; exact hr
    case enter f args =>
      refine Calls.mono h fun e w'' he => ?_
      cases e with
      | returned v => obtain ⟨v', e, hr⟩ := he; rw [put_inj hs e]; exact hr
      | panicked c => exact he.elim
      | outgrown => exact absurd he hl
    case defer df =>
      obtain ⟨v', e, hr⟩ := h
      exact absurd (congrArg Act.defers e) (by simp [Act.put])
    case row row args => exact Rows.mono h fun u w'' ⟨v', e, hr⟩ => by rw [put_inj hs e]; exact hr
  | halt x w' => cases x <;> simp only [Oper.upon] at h <;> exact h.elim

/-- the slots that the operations D write -/
def dstOf (ops : Array Oper) (i : Nat) : Option Tmp := (ops[i]?).bind (·.dst)

def putL (ops : Array Oper) (vs : Nat → Value) : List Nat → Act → Act
  | [], a => a
  | i :: l, a => putL ops vs l (a.put (dstOf ops i) (vs i))

/-- all that comes before number i by the edges, the numbers from fuel on down -/
def anc (md : Region.Mode) (ops : Array Oper) : Nat → Nat → List Nat
  | 0, _ => []
  | n + 1, i => match ops[i]? with
    | none => []
    | some o => o.after.toList.flatMap fun e => if Region.binds md e then e.on :: anc md ops n e.on else []

/-- the slots that an operation reads: its operands, its guard's -/
def looks (ops : Array Oper) (o : Oper) : List Tmp := o.looksAt ops

def jok (md : Region.Mode) (ops : Array Oper) (n : Nat) (D : List Nat) (deps : Nat → List Nat) : Bool :=
  decide D.Nodup && Region.noSelect ops &&
  (D.all fun i => match ops[i]? with
    | none => false
    | some o =>
      (deps i).all (fun k => D.contains k && (anc md ops ops.size i).contains k && (deps k).all fun m => (deps i).contains m) &&
      (match o.guard with | none => true | some (g, _) => (deps i).contains g && (dstOf ops g).isSome) &&
      (dstOf ops i).isSome &&
      D.all (fun j => match dstOf ops j with
        | none => true
        | some t => decide (t < n) && (i == j || dstOf ops i != some t) && (!(looks ops o).contains t || (deps i).contains j))) &&
  ((List.range ops.size).all fun i => D.contains i || D.all fun k => (anc md ops ops.size i).contains k) &&
  ((List.range ops.size).all fun i => match ops[i]? with
    | none => true
    | some o => o.after.all fun e => !Region.binds md e || decide (e.on < i))

def wantedV (o : Oper) (vs : Nat → Value) : Bool :=
  match o.guard with
  | none => true
  | some (g, want) => match vs g with | .bool b => b == want | _ => false

/-- what an act is while the operations 'listed' of D have come up with values vs -/
structure Rel (ops : Array Oper) (D : List Nat) (a0 : Act) (vs : Nat → Value) (listed : Array Bool) (a : Act) : Prop where
  defers : a.defers = a0.defers
  size : a.tmps.size = a0.tmps.size
  hit : ∀ i ∈ D, listed.getD i false = true → ∀ t, dstOf ops i = some t → t < a0.tmps.size → a.tmps[t]? = some (vs i)
  miss : ∀ t, (∀ i ∈ D, listed.getD i false = true → dstOf ops i ≠ some t) → a.tmps[t]? = a0.tmps[t]?

theorem put_tmps (a : Act) (d : Option Tmp) (v : Value) (t : Nat) : (a.put d v).tmps[t]? = if d = some t ∧ t < a.tmps.size then some v else a.tmps[t]? := by
  cases d with
  | none => simp [Act.put]
  | some d =>
    simp only [Act.put, Array.getElem?_setIfInBounds, Option.some.injEq]
    by_cases h : d = t
    · subst h
      by_cases hl : d < a.tmps.size
      · simp [hl]
      · simp [hl]
    · simp [h]

theorem put_size (a : Act) (d : Option Tmp) (v : Value) : (a.put d v).tmps.size = a.tmps.size := by
  cases d <;> simp [Act.put]

theorem put_defers (a : Act) (d : Option Tmp) (v : Value) : (a.put d v).defers = a.defers := by
  cases d <;> rfl

theorem putL_size (vs : Nat → Value) : ∀ (l : List Nat) (a : Act), (putL ops vs l a).tmps.size = a.tmps.size
  | [], _ => rfl
  | i :: l, a => by rw [putL, putL_size vs l, put_size]

theorem putL_defers (vs : Nat → Value) : ∀ (l : List Nat) (a : Act), (putL ops vs l a).defers = a.defers
  | [], _ => rfl
  | i :: l, a => by rw [putL, putL_defers vs l, put_defers]

theorem putL_miss (vs : Nat → Value) (t : Nat) : ∀ (l : List Nat) (a : Act), (∀ i ∈ l, dstOf ops i ≠ some t) → (putL ops vs l a).tmps[t]? = a.tmps[t]?
  | [], _, _ => rfl
  | i :: l, a, h => by
    rw [putL, putL_miss vs t l _ (fun j hj => h j (List.mem_cons_of_mem _ hj)), put_tmps, if_neg (fun hh => h i (List.mem_cons_self) hh.1)]

theorem putL_hit (vs : Nat → Value) (t : Nat) : ∀ (l : List Nat) (a : Act) (i : Nat), i ∈ l → dstOf ops i = some t → t < a.tmps.size → (∀ j ∈ l, j ≠ i → dstOf ops j ≠ some t) → (putL ops vs l a).tmps[t]? = some (vs i)
  | [], _, _, h, _, _, _ => by cases h
  | k :: l, a, i, h, hd, hl, hu => by
    rw [putL]
    by_cases hm : i ∈ l
    · exact putL_hit vs t l _ i hm hd (by rw [put_size]; exact hl) (fun j hj hne => hu j (List.mem_cons_of_mem _ hj) hne)
    · have hk : i = k := by
        rcases List.mem_cons.1 h with h | h
        · exact h
        · exact absurd h hm
      subst hk
      rw [putL_miss vs t l _ (fun j hj => hu j (List.mem_cons_of_mem _ hj) (fun e => hm (e ▸ hj))), put_tmps, if_pos ⟨hd, hl⟩]

/-- the listed ones are closed under what must come before -/
def Closed (md : Region.Mode) (ops : Array Oper) (listed : Array Bool) : Prop :=
  ∀ i, listed.getD i false = true → ∀ o, ops[i]? = some o → ∀ e ∈ o.after, Region.binds md e = true → listed.getD e.on false = true

theorem anc_listed {listed : Array Bool} (hc : Closed md ops listed) : ∀ (n i : Nat), (∀ o, ops[i]? = some o → ∀ e ∈ o.after, Region.binds md e = true → listed.getD e.on false = true) →
    ∀ k ∈ anc md ops n i, listed.getD k false = true
  | 0, _, _, _, h => by simp [anc] at h
  | n + 1, i, hi, k, h => by
    unfold anc at h
    cases ho : ops[i]? with
    | none => rw [ho] at h; simp at h
    | some o =>
      rw [ho] at h
      simp only [List.mem_flatMap] at h
      obtain ⟨e, he, h⟩ := h
      by_cases hb : Region.binds md e = true
      · rw [if_pos hb] at h
        have hl := hi o ho e (Array.mem_toList_iff.1 he) hb
        rcases List.mem_cons.1 h with rfl | h
        · exact hl
        · exact anc_listed hc n e.on (fun o' ho' e' he' hb' => hc e.on hl o' ho' e' he' hb') k h
      · rw [if_neg hb] at h; simp at h

theorem closed_set {listed : Array Bool} {i : Nat} (hc : Closed md ops listed) (hr : i ∈ Region.ready md ops listed) : Closed md ops (listed.setIfInBounds i true) := by
  intro j hj o ho e he hb
  obtain ⟨_, oi, hoi, hall⟩ := mem_ready.1 hr
  by_cases hij : i = j
  · subst hij
    rw [hoi] at ho
    injection ho with ho
    subst ho
    exact getD_set_true (hall e he hb)
  · rw [getD_set_ne false hij] at hj
    exact getD_set_true (hc j hj o ho e he hb)

def left (D : List Nat) (listed : Array Bool) : List Nat := D.filter fun i => !listed.getD i false

theorem left_set {D : List Nat} {listed : Array Bool} {i : Nat} (hn : D.Nodup) (hi : i ∈ D) (hl : i < listed.size) (hu : listed.getD i false = false) :
    (left D listed).length = (left D (listed.setIfInBounds i true)).length + 1 := by
  unfold left
  induction D with
  | nil => cases hi
  | cons d D ih =>
    obtain ⟨hd, hn'⟩ := List.nodup_cons.1 hn
    rcases List.mem_cons.1 hi with rfl | hi'
    · have h1 : (listed.setIfInBounds i true).getD i false = true := by simp [hl]
      have h2 : D.filter (fun j => !listed.getD j false) = D.filter (fun j => !(listed.setIfInBounds i true).getD j false) := by
        refine List.filter_congr fun j hj => ?_
        rw [getD_set_ne false (fun e => hd (by rw [e]; exact hj))]
      rw [List.filter_cons, List.filter_cons, hu, h1, h2]
      simp
    · have hne : i ≠ d := fun e => hd (e ▸ hi')
      have := ih hn' hi'
      rw [List.filter_cons, List.filter_cons, getD_set_ne false hne]
      cases listed.getD d false <;> simp only [Bool.not_true, Bool.not_false, if_true, List.length_cons, Bool.false_eq_true, if_false] <;> omega

theorem ready_ne {listed : Array Bool} (hs : listed.size = ops.size)
    (hback : ∀ (i : Nat) (o : Oper), ops[i]? = some o → ∀ e ∈ o.after, Region.binds md e = true → e.on < i) :
    ∀ (i : Nat), i < ops.size → listed.getD i false = false → Region.ready md ops listed ≠ [] := by
  intro i
  induction i using Nat.strongRecOn with
  | ind i ih =>
    intro hi hu
    have ho : ops[i]? = some ops[i] := Array.getElem?_eq_getElem hi
    by_cases h : ∃ e ∈ ops[i].after, Region.binds md e = true ∧ listed.getD e.on false = false
    · obtain ⟨e, he, hb, hl⟩ := h
      have hlt := hback i _ ho e he hb
      exact ih e.on hlt (by omega) hl
    · intro hnil
      have hm : i ∈ Region.ready md ops listed := mem_ready.2 ⟨by
        have : listed[i]? = some listed[i] := Array.getElem?_eq_getElem (by omega)
        simpa [this, hs, hi] using hu, _, ho, fun e he hb => by
          cases hc : listed.getD e.on false
          · exact absurd ⟨e, he, hb, hc⟩ h
          · rfl⟩
      rw [hnil] at hm
      cases hm

def listedOf (n : Nat) (D : List Nat) : Array Bool := ((List.range n).map fun i => D.contains i).toArray

theorem sub_flatMap {α : Type} (f : Nat → List α) : ∀ {D : List Nat} {i : Nat}, i ∈ D → (f i).Sublist (D.flatMap f)
  | [], _, h => by cases h
  | d :: D, i, h => by
    rw [List.flatMap_cons]
    rcases List.mem_cons.1 h with rfl | h
    · exact List.sublist_append_left _ _
    · exact (sub_flatMap f h).trans (List.sublist_append_right _ _)

theorem perm_flatMap {α : Type} : ∀ {D : List Nat} {i : Nat}, D.Nodup → i ∈ D → ∀ (f g : Nat → List α) (N : List α), f i = [] → g i = N → (∀ k, k ≠ i → g k = f k) → ((D.flatMap f) ++ N).Perm (D.flatMap g)
  | [], _, _, h, _, _, _, _, _, _ => by cases h
  | d :: D, i, hn, h, f, g, N, hf, hg, hk => by
    obtain ⟨hd, hn'⟩ := List.nodup_cons.1 hn
    rw [List.flatMap_cons, List.flatMap_cons]
    rcases List.mem_cons.1 h with rfl | h'
    · have e : D.flatMap g = D.flatMap f := by
        have : ∀ (E : List Nat), i ∉ E → E.flatMap g = E.flatMap f := by
          intro E
          induction E with
          | nil => intro _; rfl
          | cons x E ih =>
            intro hx
            rw [List.flatMap_cons, List.flatMap_cons, hk x (fun e => hx (by rw [e]; exact List.mem_cons_self)), ih (fun e => hx (List.mem_cons_of_mem _ e))]
        exact this D hd
      rw [hf, hg, e, List.nil_append]
      exact List.perm_append_comm
    · rw [hk d (fun e => hd (by rw [e]; exact h')), List.append_assoc]
      exact List.Perm.append_left _ (perm_flatMap hn' h' f g N hf hg hk)

/-- what an operation leaves: its value, and the things that it made -/
abbrev Yv := Value × List Res

/-- the values of those that number i hangs on, and no others -/
def restr (l : List Nat) (vs : Nat → Yv) : Nat → Yv := fun k => if l.contains k = true then vs k else (undef, [])

theorem restr_mem {l : List Nat} {vs : Nat → Yv} {k : Nat} (h : l.contains k = true) : restr l vs k = vs k := if_pos h

theorem restr_congr {l : List Nat} {vs vs' : Nat → Yv} (h : ∀ k ∈ l, vs k = vs' k) : restr l vs = restr l vs' := funext fun k => by
  unfold restr
  by_cases hk : l.contains k = true
  · rw [if_pos hk, if_pos hk]; exact h k (by simpa using hk)
  · rw [if_neg hk, if_neg hk]

theorem restr_restr {l m : List Nat} {vs : Nat → Yv} (h : ∀ k ∈ m, k ∈ l) : restr m (restr l vs) = restr m vs := restr_congr fun k hk => restr_mem (by simpa using h k hk)

structure Facts (P : Program) (md : Region.Mode) (ops : Array Oper) (n : Nat) (D : List Nat) (deps : Nat → List Nat) (a0 : Act)
    (A : (Nat → Yv) → Act) (F : Nat → (Nat → Yv) → Yv → Prop) (w0 : World) (L : List Res) : Prop where
  act : ∀ vs, putL ops (fun k => (vs k).1) D a0 = A vs
  ok : jok md ops n D deps = true
  size : a0.tmps.size = n
  step : ∀ i ∈ D, ∀ o, ops[i]? = some o → ∀ (vs : Nat → Yv) (M : List Res) (w : World), Own w0 (L ++ M) w → (∀ k ∈ deps i, F k (restr (deps k) vs) (vs k) ∧ (vs k).2.Sublist M) → vs = restr (deps i) vs →
    if wantedV o (fun k => (vs k).1) = true then ∀ K : Act → World → Prop, (∀ v N w', F i vs (v, N) → Own w0 (L ++ M ++ N) w' → K ((A vs).put o.dst v) w') → o.wp P (A vs) w K noQ
    else F i vs (undef, [])

theorem any_of_facts {n : Nat} {D : List Nat} {deps : Nat → List Nat} {a0 : Act} {A : (Nat → Yv) → Act} {F : Nat → (Nat → Yv) → Yv → Prop} {w0 : World} {L : List Res}
    (H : Facts P md ops n D deps a0 A F w0 L) {r : Nat}
    (hend : ∀ (vs : Nat → Yv) (w : World), Own w0 (L ++ D.flatMap fun i => (vs i).2) w → (∀ i ∈ D, F i (restr (deps i) vs) (vs i)) → wpAny P md ops Q r (listedOf ops.size D) (A vs) w) :
    ∀ (c : Nat) (listed : Array Bool) (vs : Nat → Yv) (a : Act) (w : World), (left D listed).length = c → listed.size = ops.size → Closed md ops listed →
      (∀ i, i ∉ D → listed.getD i false = false) → Rel ops D a0 (fun k => (vs k).1) listed a → Own w0 (L ++ D.flatMap fun i => (vs i).2) w → (∀ i ∈ D, listed.getD i false = false → (vs i).2 = []) →
      (∀ i ∈ D, listed.getD i false = true → F i (restr (deps i) vs) (vs i)) →
      wpAny P md ops Q (c + r) listed a w := by
  have hok := H.ok
  unfold jok at hok
  simp only [Bool.and_eq_true, List.all_eq_true, decide_eq_true_eq] at hok
  obtain ⟨⟨⟨⟨hnd, hsel⟩, hD⟩, htail⟩, hbk⟩ := hok
  have hback : ∀ (i : Nat) (o : Oper), ops[i]? = some o → ∀ e ∈ o.after, Region.binds md e = true → e.on < i := by
    intro i o ho e he hb
    have := hbk i (List.mem_range.2 (Array.getElem?_eq_some_iff.1 ho).1)
    rw [ho] at this
    have h2 := (Array.all_eq_true_iff_forall_mem.1 this) e he
    simpa [hb] using h2
  have hDs : ∀ i ∈ D, i < ops.size := by
    intro i hi
    have := hD i hi
    rcases Nat.lt_or_ge i ops.size with h | h
    · exact h
    · rw [Array.getElem?_eq_none h] at this; simp at this
  intro c
  induction c with
  | zero =>
    intro listed vs a w hc hsz hcl hnot hrel hG hE hF
    have hall : ∀ i ∈ D, listed.getD i false = true := by
      intro i hi
      have h0 : left D listed = [] := List.length_eq_zero_iff.1 hc
      unfold left at h0
      rw [List.filter_eq_nil_iff] at h0
      have := h0 i hi
      simpa using this
    have hlist : listed = listedOf ops.size D := by
      refine Array.ext (by simp [listedOf, hsz]) fun i h1 h2 => ?_
      have hv : listed.getD i false = listed[i] := by simp [h1]
      by_cases hi : i ∈ D
      · rw [← hv, hall i hi]; simp [listedOf, hi]
      · rw [← hv, hnot i hi]; simp [listedOf, hi]
    have ha : a = putL ops (fun k => (vs k).1) D a0 := by
      have htm : a.tmps = (putL ops (fun k => (vs k).1) D a0).tmps := by
        refine Array.ext_getElem? fun t => ?_
        by_cases ht : ∃ i ∈ D, dstOf ops i = some t
        · obtain ⟨i, hi, hd⟩ := ht
          by_cases hlt : t < a0.tmps.size
          · rw [hrel.hit i hi (hall i hi) t hd hlt, putL_hit (fun k => (vs k).1) t D a0 i hi hd hlt]
            intro j hj hne hdj
            have := hD i hi
            cases ho : ops[i]? with
            | none => rw [ho] at this; simp at this
            | some o =>
              rw [ho] at this
              simp only [Bool.and_eq_true, List.all_eq_true] at this
              have h2 := this.2 j hj
              rw [hdj] at h2
              simp [hd, Ne.symm hne] at h2
          · rw [Array.getElem?_eq_none (by rw [hrel.size]; omega), Array.getElem?_eq_none (by rw [putL_size]; omega)]
        · rw [hrel.miss t (fun i hi _ hd => ht ⟨i, hi, hd⟩), putL_miss (fun k => (vs k).1) t D a0 (fun i hi hd => ht ⟨i, hi, hd⟩)]
      have hdf : a.defers = (putL ops (fun k => (vs k).1) D a0).defers := by rw [hrel.defers, putL_defers]
      cases a; cases h : putL ops (fun k => (vs k).1) D a0; simp_all
    rw [hlist, ha, H.act]
    simpa using hend vs w hG (fun i hi => hF i hi (hall i hi))
  | succ c ih =>
    intro listed vs a w hc hsz hcl hnot hrel hG hE hF
    have hun : ∃ i ∈ D, listed.getD i false = false := by
      have h0 : left D listed ≠ [] := by intro h; rw [h] at hc; simp at hc
      obtain ⟨i, hi⟩ := List.exists_mem_of_ne_nil _ h0
      unfold left at hi
      rw [List.mem_filter] at hi
      exact ⟨i, hi.1, by simpa using hi.2⟩
    have hne : Region.ready md ops listed ≠ [] := by
      obtain ⟨i, hi, hu⟩ := hun
      exact ready_ne hsz hback i (hDs i hi) hu
    rw [show c + 1 + r = (c + r) + 1 by omega]
    refine ⟨fun h => absurd h hne, fun i hi => ?_⟩
    obtain ⟨hu, o, ho, hall⟩ := mem_ready.1 hi
    have hanc := anc_listed hcl ops.size i (fun o' ho' e he hb => by rw [ho] at ho'; injection ho' with ho'; subst ho'; exact hall e he hb)
    have hilt : i < ops.size := (Array.getElem?_eq_some_iff.1 ho).1
    have hu' : listed.getD i false = false := by
      have h1 : listed[i]? = some listed[i] := Array.getElem?_eq_getElem (by omega)
      simp [hsz, hilt] at hu ⊢; exact hu
    have hiD : i ∈ D := by
      have := htail i (List.mem_range.2 hilt)
      simp only [Bool.or_eq_true, List.contains_iff_mem, List.all_eq_true] at this
      rcases this with h | h
      · exact h
      · obtain ⟨j, hj, hju⟩ := hun
        rw [hanc j (h j hj)] at hju
        cases hju
    have hDi := hD i hiD
    rw [ho] at hDi
    simp only [Bool.and_eq_true, List.all_eq_true] at hDi
    obtain ⟨⟨⟨hdep, hgd⟩, hsome⟩, hDj⟩ := hDi
    have hdepL : ∀ k ∈ deps i, k ∈ D ∧ listed.getD k false = true := by
      intro k hk
      have h2 := hdep k hk
      simp only [Bool.and_eq_true, List.contains_iff_mem] at h2
      exact ⟨h2.1.1, hanc k h2.1.2⟩
    let vd : Nat → Yv := restr (deps i) vs
    have hvd : ∀ k ∈ deps i, vd k = vs k := fun k hk => restr_mem (by simpa using hk)
    have hdd : ∀ k ∈ deps i, ∀ m ∈ deps k, m ∈ deps i := by
      intro k hk m hm
      have := hD i hiD
      rw [ho] at this
      simp only [Bool.and_eq_true, List.all_eq_true] at this
      have h2 := this.1.1.1 k hk
      simp only [Bool.and_eq_true, List.contains_iff_mem, List.all_eq_true] at h2
      exact h2.2 m hm
    have hst := H.step i hiD o ho vd (D.flatMap fun i => (vs i).2) w hG (fun k hk => by
      rw [hvd k hk, show restr (deps k) vd = restr (deps k) vs from restr_restr (hdd k hk)]
      exact ⟨hF k (hdepL k hk).1 (hdepL k hk).2, sub_flatMap (fun i => (vs i).2) (hdepL k hk).1⟩) (restr_restr (fun k hk => hk)).symm
    have huniq : ∀ t, ∀ j ∈ D, dstOf ops j = some t → ∀ k ∈ D, k ≠ j → dstOf ops k ≠ some t := by
      intro t j hj hd k hk hne hdk
      have := hD k hk
      cases hok : ops[k]? with
      | none => rw [hok] at this; simp at this
      | some ok =>
        rw [hok] at this
        simp only [Bool.and_eq_true, List.all_eq_true] at this
        have h2 := this.2 j hj
        rw [hd] at h2
        simp [hdk, hne] at h2
    -- an operand reads in the frame at hand as in the last one
    have hread : ∀ x ∈ o.op.operands, a.eval x = (A vd).eval x := by
      intro x hx
      rw [← H.act vd]
      cases x with
      | tmp t =>
        have hlk : (looks ops o).contains t = true := by
          rw [List.contains_iff_mem]
          exact List.mem_append_left _ (List.mem_filterMap.2 ⟨.tmp t, by simpa using hx, rfl⟩)
        show a.tmps.getD t undef = (putL ops (fun k => (vd k).1) D a0).tmps.getD t undef
        rw [Array.getD_eq_getD_getElem?, Array.getD_eq_getD_getElem?]
        by_cases hj : ∃ j ∈ D, dstOf ops j = some t
        · obtain ⟨j, hjm, hdj⟩ := hj
          have hjt := hDj j hjm
          rw [hdj] at hjt
          simp only [Bool.and_eq_true, decide_eq_true_eq, hlk, Bool.not_true, Bool.false_or, List.contains_iff_mem] at hjt
          have hlt : t < a0.tmps.size := by rw [H.size]; exact hjt.1.1
          rw [hrel.hit j hjm (hdepL j hjt.2).2 t hdj hlt, putL_hit (fun k => (vd k).1) t D a0 j hjm hdj hlt (huniq t j hjm hdj), show (vd j).1 = (vs j).1 from by rw [hvd j hjt.2]]
        · rw [hrel.miss t (fun j hjm _ hd => hj ⟨j, hjm, hd⟩), putL_miss (fun k => (vd k).1) t D a0 (fun j hjm hd => hj ⟨j, hjm, hd⟩)]
      | _ => rfl
    have hwant : Region.wanted o (yielded ops a.tmps) = wantedV o (fun k => (vd k).1) := by
      unfold Region.wanted wantedV
      cases hg : o.guard with
      | none => rfl
      | some gw =>
        obtain ⟨g, want⟩ := gw
        rw [hg] at hgd
        simp only [Bool.and_eq_true, List.contains_iff_mem] at hgd
        obtain ⟨hgm, hgs⟩ := hgd
        obtain ⟨t, hgt⟩ := Option.isSome_iff_exists.1 hgs
        have hjt := hDj g (hdepL g hgm).1
        rw [hgt] at hjt
        simp only [Bool.and_eq_true, decide_eq_true_eq] at hjt
        have hh := hrel.hit g (hdepL g hgm).1 (hdepL g hgm).2 t hgt (by rw [H.size]; exact hjt.1.1)
        have hy : yielded ops a.tmps g = match (vs g).1 with | .bool b => some b | _ => none := by
          unfold yielded
          unfold dstOf at hgt
          rw [hgt]
          simp only [Option.bind_some, hh]
          cases (vs g).1 <;> rfl
        show (yielded ops a.tmps g == some want) = (match (vd g).1 with | .bool b => b == want | _ => false)
        rw [hy, hvd g hgm]
        cases hv : (vs g).1 <;> rfl
    -- what follows behind it
    have hnext : ∀ v N w', F i vd (v, N) → Own w0 (L ++ (D.flatMap fun i => (vs i).2) ++ N) w' → wpAny P md ops Q (c + r) (listed.setIfInBounds i true) (a.put o.dst v) w' := by
      intro v N w' hFi hGw
      have hdi : dstOf ops i = o.dst := by simp [dstOf, ho]
      let vs' : Nat → Yv := fun k => if k = i then (v, N) else vs k
      have hnl : ∀ k, listed.getD k false = true → k ≠ i := fun k hk e => by rw [e, hu'] at hk; cases hk
      have hvs : ∀ k, k ≠ i → vs' k = vs k := fun k hk => if_neg hk
      have hvi : vs' i = (v, N) := if_pos rfl
      have hcl' := closed_set hcl hi
      refine ih (listed.setIfInBounds i true) vs' (a.put o.dst v) w' ?_ (by simpa using hsz) hcl' ?_ ?_ ?_ ?_ ?_
      · have := left_set (D := D) (listed := listed) hnd hiD (by omega) hu'
        omega
      · intro j hj
        rw [getD_set_ne false (fun e => hj (by rw [← e]; exact hiD))]
        exact hnot j hj
      · refine ⟨by rw [put_defers]; exact hrel.defers, by rw [put_size]; exact hrel.size, ?_, ?_⟩
        · intro j hj hl t hd hlt
          rw [put_tmps]
          by_cases hji : j = i
          · subst hji
            rw [if_pos ⟨by rw [← hdi]; exact hd, by rw [hrel.size]; exact hlt⟩]
            simp [vs']
          · rw [getD_set_ne false (Ne.symm hji)] at hl
            rw [if_neg, hrel.hit j hj hl t hd hlt, hvs j hji]
            rintro ⟨h1, _⟩
            have hjt := hDj j hj
            rw [hd] at hjt
            simp [hdi, h1, Ne.symm hji] at hjt
        · intro t hm
          rw [put_tmps, if_neg, hrel.miss t]
          · intro j hj hl
            exact hm j hj (getD_set_true hl)
          · rintro ⟨h1, _⟩
            exact hm i hiD (by simp [hsz, hilt]) (by rw [hdi]; exact h1)
      · refine hGw.perm ?_
        rw [List.append_assoc]
        refine List.Perm.append_left L ?_
        exact perm_flatMap hnd hiD (fun k => (vs k).2) (fun k => (vs' k).2) N (hE i hiD hu') (by rw [hvi]) (fun k hk => by rw [hvs k hk])
      · intro j hj hl
        by_cases hji : j = i
        · subst hji
          rw [show (listed.setIfInBounds j true).getD j false = true by simp [hsz, hilt]] at hl
          cases hl
        · rw [getD_set_ne false (Ne.symm hji)] at hl
          rw [hvs j hji]
          exact hE j hj hl
      · intro j hj hl
        by_cases hji : j = i
        · subst hji
          rw [hvi, show restr (deps j) vs' = vd from restr_congr (fun k hk => hvs k (hnl k (hdepL k hk).2))]
          exact hFi
        · rw [getD_set_ne false (Ne.symm hji)] at hl
          have hFj := hF j hj hl
          rw [hvs j hji, show restr (deps j) vs' = restr (deps j) vs from restr_congr (fun k hk => ?_)]
          · exact hFj
          · have hDjj := hD j hj
            cases hoj : ops[j]? with
            | none => rw [hoj] at hDjj; simp at hDjj
            | some oj =>
              rw [hoj] at hDjj
              simp only [Bool.and_eq_true, List.all_eq_true] at hDjj
              have h2 := hDjj.1.1.1 k hk
              simp only [Bool.and_eq_true, List.contains_iff_mem] at h2
              have := anc_listed hcl ops.size j (fun o' ho' e he hb => hcl j hl o' ho' e he hb) k h2.1.2
              exact hvs k (hnl k this)
    unfold wpOp
    rw [ho]
    simp only []
    by_cases hw : wantedV o (fun k => (vd k).1) = true
    · rw [if_pos (by rw [hwant]; exact hw)]
      rw [if_pos hw] at hst
      obtain ⟨d, hd⟩ := Option.isSome_iff_exists.1 hsome
      have hdo : o.dst = some d := by simpa [dstOf, ho] using hd
      have hdn : d < (A vd).tmps.size := by
        have := hDj i hiD
        rw [hd] at this
        simp only [Bool.and_eq_true, decide_eq_true_eq] at this
        rw [← H.act, putL_size, H.size]
        exact this.1.1
      have h1 : OpR P o (A vd).eval w (fun v w' => ∃ N, F i vd (v, N) ∧ Own w0 (L ++ (D.flatMap fun i => (vs i).2) ++ N) w') := by
        have h2 := hst (fun a' w' => ∃ v, a' = (A vd).put o.dst v ∧ ∃ N, F i vd (v, N) ∧ Own w0 (L ++ (D.flatMap fun i => (vs i).2) ++ N) w') (fun v N w' x y => ⟨v, rfl, N, x, y⟩)
        rw [hdo] at h2
        exact OpR.of_wp hdo hdn h2
      refine .inl (OpR.wp (R := fun v w' => ∃ N, F i vd (v, N) ∧ Own w0 (L ++ (D.flatMap fun i => (vs i).2) ++ N) w') ?_ fun v w' ⟨N, x, y⟩ => hnext v N w' x y)
      unfold OpR at h1 ⊢
      rw [execOp_congr (ρ := a.eval) (ρ' := (A vd).eval) o (fun cs b => Region.noSelect_spec hsel i o cs b ho) hread]
      exact h1
    · rw [if_neg (by rw [hwant]; exact hw)]
      rw [if_neg hw] at hst
      exact hnext undef [] w hst (by simpa using hG)

/-- A region that draws its order: each operation of D said by itself, from what it hangs on; those that are not in D wait for all of D. -/
theorem wp_region_facts {id : Nat} {n : Nat} {D : List Nat} {deps : Nat → List Nat} {a0 : Act} {w w0 : World} {A : (Nat → Yv) → Act} {F : Nat → (Nat → Yv) → Yv → Prop} {L : List Res}
    (hm : P.follows .mixedOrders = true) (H : Facts P .any ops n D deps a0 A F w0 L) (hG : Own w0 L w) (hlen : D.length ≤ ops.size)
    (hend : ∀ (vs : Nat → Yv) (w : World), Own w0 (L ++ D.flatMap fun i => (vs i).2) w → (∀ i ∈ D, F i (restr (deps i) vs) (vs i)) → wpAny P .any ops Q (ops.size - D.length) (listedOf ops.size D) (A vs) w) :
    (Code.region id ops true).wp P Q a0 w := by
  refine wp_region_any hm ?_
  have hfalse : ∀ i, (Array.replicate ops.size false).getD i false = false := by
    intro i
    by_cases h : i < ops.size <;> simp [h]
  have hleft : left D (Array.replicate ops.size false) = D := by
    unfold left
    exact List.filter_eq_self.2 fun i _ => by simp [hfalse i]
  have hnil : (D.flatMap fun _ => ([] : List Res)) = [] := by
    generalize D = E
    induction E with
    | nil => rfl
    | cons x E ih => rw [List.flatMap_cons, ih]; rfl
  have := any_of_facts (Q := Q) H (r := ops.size - D.length) hend D.length (Array.replicate ops.size false) (fun _ => (undef, [])) a0 { w with drawn := w.drawn + 1 }
    (by rw [hleft]) (by simp) (fun i hi => (by rw [hfalse i] at hi; cases hi)) (fun i _ => hfalse i)
    ⟨rfl, rfl, fun i _ hl => (by rw [hfalse i] at hl; cases hl), fun t _ => rfl⟩ (by simp only [hnil, List.append_nil]; exact hG.drew) (fun i _ _ => rfl) (fun i _ hl => (by rw [hfalse i] at hl; cases hl))
  rw [show D.length + (ops.size - D.length) = ops.size by omega] at this
  exact this

/-- what is to be shown of the operations D, one after the other -/
def Each (ops : Array Oper) (S : Nat → Oper → Prop) : List Nat → Prop
  | [] => True
  | i :: D => (∀ o, ops[i]? = some o → S i o) ∧ Each ops S D

theorem Each.nil {S : Nat → Oper → Prop} : Each ops S [] := trivial

theorem Each.cons {S : Nat → Oper → Prop} {i : Nat} {D : List Nat} {o : Oper} (ho : ops[i]? = some o) (h : S i o) (hr : Each ops S D) : Each ops S (i :: D) :=
  ⟨fun o' ho' => by rw [ho] at ho'; injection ho' with ho'; subst ho'; exact h, hr⟩

theorem Each.all {S : Nat → Oper → Prop} : ∀ {D : List Nat}, Each ops S D → ∀ i ∈ D, ∀ o, ops[i]? = some o → S i o
  | [], _, _, h => by cases h
  | j :: D, hE, i, h => by
    rcases List.mem_cons.1 h with rfl | h
    · exact hE.1
    · exact hE.2.all i h

/-- the operations D, one after the other, each with a value that is the same in every world in which it may come up -/
def Chain (P : Program) (ops : Array Oper) (w0 : World) (L : List Res) : List Nat → Act → (Act → Prop) → Prop
  | [], a, R => R a
  | i :: D, a, R => ∃ v, (∀ o, ops[i]? = some o → ∀ (M : List Res) (w : World), Own w0 (L ++ M) w →
      if Region.wanted o (yielded ops a.tmps) = true then ∀ K : Act → World → Prop, (∀ w', Own w0 (L ++ M) w' → K (a.put o.dst v) w') → o.wp P a w K noQ else v = undef) ∧
      Chain P ops w0 L D (a.put (dstOf ops i) v) R

theorem Chain.nil {w0 : World} {L : List Res} {a : Act} {R : Act → Prop} (h : R a) : Chain P ops w0 L [] a R := h

theorem Chain.cons {w0 : World} {L : List Res} {i : Nat} {D : List Nat} {a a' : Act} {R : Act → Prop} {o : Oper} (ho : ops[i]? = some o) (hw : Region.wanted o (yielded ops a.tmps) = true) {v : Value}
    (hs : ∀ (M : List Res) (w : World), Own w0 (L ++ M) w → ∀ K : Act → World → Prop, (∀ w', Own w0 (L ++ M) w' → K (a.put o.dst v) w') → o.wp P a w K noQ)
    (ha : a.put o.dst v = a') (h : Chain P ops w0 L D a' R) : Chain P ops w0 L (i :: D) a R := by
  refine ⟨v, fun o' ho' M w hO => ?_, ?_⟩
  · rw [ho] at ho'
    injection ho' with ho'
    subst ho'
    rw [if_pos hw]
    exact hs M w hO
  · have : dstOf ops i = o.dst := by simp [dstOf, ho]
    rw [this, ha]
    exact h

theorem Chain.skip {w0 : World} {L : List Res} {i : Nat} {D : List Nat} {a a' : Act} {R : Act → Prop} {o : Oper} (ho : ops[i]? = some o) (hw : Region.wanted o (yielded ops a.tmps) = false)
    (ha : a.put o.dst undef = a') (h : Chain P ops w0 L D a' R) : Chain P ops w0 L (i :: D) a R := by
  refine ⟨undef, fun o' ho' M w hO => ?_, ?_⟩
  · rw [ho] at ho'
    injection ho' with ho'
    subst ho'
    rw [if_neg (by rw [hw]; exact Bool.false_ne_true)]
  · have : dstOf ops i = o.dst := by simp [dstOf, ho]
    rw [this, ha]
    exact h

/-- what the chain gives: the values, and each operation's step over the frame in which those before it have come up -/
theorem Chain.out {w0 : World} {L : List Res} {R : Act → Prop} : ∀ {D : List Nat} {a : Act}, D.Nodup → Chain P ops w0 L D a R →
    ∃ E : Nat → Value, R (putL ops E D a) ∧ ∀ (B : List Nat) (i : Nat) (C : List Nat), D = B ++ i :: C → ∀ o, ops[i]? = some o → ∀ (M : List Res) (w : World), Own w0 (L ++ M) w →
      if Region.wanted o (yielded ops (putL ops E B a).tmps) = true then ∀ K : Act → World → Prop, (∀ w', Own w0 (L ++ M) w' → K ((putL ops E B a).put o.dst (E i)) w') → o.wp P (putL ops E B a) w K noQ else E i = undef
  | [], a, _, h => ⟨fun _ => undef, h, fun B i C e => by simp at e⟩
  | j :: D, a, hn, ⟨v, hs, h⟩ => by
    obtain ⟨hj, hn'⟩ := List.nodup_cons.1 hn
    obtain ⟨E, hR, hE⟩ := Chain.out hn' h
    let E' : Nat → Value := fun k => if k = j then v else E k
    have hEj : E' j = v := if_pos rfl
    have hEk : ∀ k, k ≠ j → E' k = E k := fun k hk => if_neg hk
    have hput : ∀ (B : List Nat) (b : Act), j ∉ B → putL ops E' B b = putL ops E B b := by
      intro B
      induction B with
      | nil => intro b _; rfl
      | cons x B ih =>
        intro b hx
        rw [putL, putL, hEk x (fun e => hx (by rw [e]; exact List.mem_cons_self)), ih _ (fun e => hx (List.mem_cons_of_mem _ e))]
    refine ⟨E', ?_, ?_⟩
    · rw [putL, hEj, hput D _ hj]
      exact hR
    · intro B i C e o ho M w hO
      cases B with
      | nil =>
        simp only [List.nil_append, List.cons.injEq] at e
        obtain ⟨rfl, rfl⟩ := e
        rw [hEj]
        exact hs o ho M w hO
      | cons x B =>
        simp only [List.cons_append, List.cons.injEq] at e
        obtain ⟨rfl, e⟩ := e
        have hjB : j ∉ B := fun hb => hj (by rw [e]; exact List.mem_append_left _ hb)
        have hij : i ≠ j := fun hb => hj (by rw [e, hb]; exact List.mem_append_right _ (List.mem_cons_self))
        rw [putL, hEj, hput B _ hjB, hEk i hij]
        exact hE B i C e o ho M w hO

/-- a new variable -/
def fresh (T : TypeId) (cs : List Value) : Yv → Prop := fun x => ∃ b, x = (.pointer (some ⟨b, 0, none⟩), [box b T cs])

/-- an operation that makes something new; A: the frame when the values of all that make something new are there -/
def stepN (P : Program) (w0 : World) (L : List Res) (Df : List Nat) (deps : Nat → List Nat) (F : Nat → (Nat → Yv) → Yv → Prop) (A : (Nat → Yv) → Act) (i : Nat) (o : Oper) : Prop :=
  o.guard = none ∧ ∀ (vs : Nat → Yv) (M : List Res) (w : World), Own w0 (L ++ M) w → (∀ k ∈ deps i, k ∈ Df → F k (restr (deps k) vs) (vs k) ∧ (vs k).2.Sublist M) →
    ∀ K : Act → World → Prop, (∀ v N w', F i (restr (deps i) vs) (v, N) → Own w0 (L ++ M ++ N) w' → K ((A vs).put o.dst v) w') → o.wp P (A vs) w K noQ

/-- further checks: those before an operation stand before it in the list; what is new hangs on values alone -/
def cok (Dv Df : List Nat) (deps : Nat → List Nat) : Bool :=
  ((List.range Dv.length).all fun k => match Dv[k]? with | some i => (deps i).all fun j => (Dv.take k).contains j | none => true)

/-- A region that draws its order: the operations Dv in the order of the list, each with its value; then those that make something new, Df; then what waits for all of them. -/
theorem wp_region_c {id : Nat} {n : Nat} (Dv Df : List Nat) {deps : Nat → List Nat} {a0 : Act} {w w0 : World} {L : List Res} (F : Nat → (Nat → Yv) → Yv → Prop) {r : Nat} {lst : Array Bool}
    (hm : P.follows .mixedOrders = true) (hok : jok .any ops n (Dv ++ Df) deps = true) (hcok : cok Dv Df deps = true) (hn : a0.tmps.size = n) (hlen : (Dv ++ Df).length ≤ ops.size) (hr : (ops.size - (Dv ++ Df).length, listedOf ops.size (Dv ++ Df)) = (r, lst)) (hG : Own w0 L w)
    (chain : Chain P ops w0 L Dv a0 fun A => Each ops (stepN P w0 L Df deps F (fun vs => putL ops (fun k => (vs k).1) Df A)) Df ∧
      ∀ (vs : Nat → Yv) (w : World), Own w0 (L ++ Df.flatMap fun i => (vs i).2) w → (∀ i ∈ Df, F i (restr (deps i) vs) (vs i)) → wpAny P .any ops Q r lst (putL ops (fun k => (vs k).1) Df A) w) :
    (Code.region id ops true).wp P Q a0 w := by
  injection hr with hr1 hr2
  have hk := hok
  unfold jok at hk
  simp only [Bool.and_eq_true, List.all_eq_true, decide_eq_true_eq] at hk
  obtain ⟨⟨⟨⟨hnd, hsel⟩, hD⟩, htail⟩, hbk⟩ := hk
  unfold cok at hcok
  simp only [List.all_eq_true] at hcok
  have hc1 := hcok
  have hndv : Dv.Nodup := (List.nodup_append.1 hnd).1
  have hndf : Df.Nodup := (List.nodup_append.1 hnd).2.1
  have hdis : ∀ a ∈ Dv, ∀ b ∈ Df, a ≠ b := (List.nodup_append.1 hnd).2.2
  obtain ⟨E, ⟨hEach, hend⟩, hE⟩ := Chain.out hndv chain
  have huniq : ∀ t, ∀ j ∈ Dv ++ Df, dstOf ops j = some t → ∀ k ∈ Dv ++ Df, k ≠ j → dstOf ops k ≠ some t := by
    intro t j hj hd k hk hne hdk
    have := hD k hk
    cases hok : ops[k]? with
    | none => rw [hok] at this; simp at this
    | some ok =>
      rw [hok] at this
      simp only [Bool.and_eq_true, List.all_eq_true] at this
      have h2 := this.2 j hj
      rw [hd] at h2
      simp [hdk, hne] at h2
  have hputE : ∀ (vs : Nat → Yv), (∀ i ∈ Dv, (vs i).1 = E i) → ∀ (b : Act), putL ops (fun k => (vs k).1) Dv b = putL ops E Dv b := by
    intro vs h
    clear hok hlen hc1 hcok hE hEach hend chain hr1 hr2 hnd hD htail hdis hndv huniq
    induction Dv with
    | nil => intro b; rfl
    | cons x D ih =>
      intro b
      rw [putL, putL, h x (List.mem_cons_self)]
      exact ih (fun i hi => h i (List.mem_cons_of_mem _ hi)) _
  have happ : ∀ (vs : Nat → Value) (X Y : List Nat) (b : Act), putL ops vs (X ++ Y) b = putL ops vs Y (putL ops vs X b) := by
    intro vs X Y
    induction X with
    | nil => intro b; rfl
    | cons x X ih => intro b; rw [List.cons_append, putL, putL]; exact ih _
  -- what an operation reads in a frame in which all of B have come up is what it reads in the last one
  have hread : ∀ i ∈ Dv ++ Df, ∀ o, ops[i]? = some o → ∀ (vs : Nat → Yv) (B : List Nat), (∀ k ∈ deps i, (vs k).1 = E k) → (∀ k ∈ deps i, k ∈ B) → (∀ k ∈ B, k ∈ Dv) → 
      (wantedV o (fun k => (vs k).1) = Region.wanted o (yielded ops (putL ops E B a0).tmps)) ∧ ∀ x ∈ o.op.operands, (putL ops (fun k => (vs k).1) (Dv ++ Df) a0).eval x = (putL ops E B a0).eval x := by
    intro i hi o ho vs B hv hB hBv
    have hDi := hD i hi
    rw [ho] at hDi
    simp only [Bool.and_eq_true, List.all_eq_true] at hDi
    obtain ⟨⟨⟨hdep, hgd⟩, hsome⟩, hDj⟩ := hDi
    have hhit : ∀ t, ∀ j ∈ deps i, dstOf ops j = some t → t < a0.tmps.size → (putL ops E B a0).tmps[t]? = some (E j) := by
      intro t j hj hd hlt
      exact putL_hit E t B a0 j (hB j hj) hd hlt (fun k hk hne => huniq t j (List.mem_append_left _ (hBv j (hB j hj))) hd k (List.mem_append_left _ (hBv k hk)) hne)
    refine ⟨?_, ?_⟩
    · unfold Region.wanted wantedV
      cases hg : o.guard with
      | none => rfl
      | some gw =>
        obtain ⟨g, want⟩ := gw
        rw [hg] at hgd
        simp only [Bool.and_eq_true, List.contains_iff_mem] at hgd
        obtain ⟨hgm, hgs⟩ := hgd
        obtain ⟨t, hgt⟩ := Option.isSome_iff_exists.1 hgs
        have hgD : g ∈ Dv ++ Df := List.mem_append_left _ (hBv g (hB g hgm))
        have hjt := hDj g hgD
        rw [hgt] at hjt
        simp only [Bool.and_eq_true, decide_eq_true_eq] at hjt
        have hh := hhit t g hgm hgt (by rw [hn]; exact hjt.1.1)
        have hy : yielded ops (putL ops E B a0).tmps g = match E g with | .bool b => some b | _ => none := by
          unfold yielded
          unfold dstOf at hgt
          rw [hgt]
          simp only [Option.bind_some, hh]
          cases E g <;> rfl
        show (match (vs g).1 with | .bool b => b == want | _ => false) = (yielded ops (putL ops E B a0).tmps g == some want)
        rw [hy, hv g hgm]
        cases E g <;> rfl
    · intro x hx
      cases x with
      | tmp t =>
        have hlk : (looks ops o).contains t = true := by
          rw [List.contains_iff_mem]
          exact List.mem_append_left _ (List.mem_filterMap.2 ⟨.tmp t, by simpa using hx, rfl⟩)
        show (putL ops (fun k => (vs k).1) (Dv ++ Df) a0).tmps.getD t undef = (putL ops E B a0).tmps.getD t undef
        rw [Array.getD_eq_getD_getElem?, Array.getD_eq_getD_getElem?]
        by_cases hj : ∃ j ∈ Dv ++ Df, dstOf ops j = some t
        · obtain ⟨j, hjm, hdj⟩ := hj
          have hjt := hDj j hjm
          rw [hdj] at hjt
          simp only [Bool.and_eq_true, decide_eq_true_eq, hlk, Bool.not_true, Bool.false_or, List.contains_iff_mem] at hjt
          have hlt : t < a0.tmps.size := by rw [hn]; exact hjt.1.1
          rw [putL_hit _ t (Dv ++ Df) a0 j hjm hdj hlt (huniq t j hjm hdj), hhit t j hjt.2 hdj hlt, hv j hjt.2]
        · rw [putL_miss _ t (Dv ++ Df) a0 (fun j hjm hd => hj ⟨j, hjm, hd⟩), putL_miss _ t B a0 (fun j hjm hd => hj ⟨j, List.mem_append_left _ (hBv j hjm), hd⟩)]
      | _ => rfl
  have hsome : ∀ i ∈ Dv ++ Df, ∀ o, ops[i]? = some o → ∃ d, o.dst = some d ∧ d < n := by
    intro i hi o ho
    have hDi := hD i hi
    rw [ho] at hDi
    simp only [Bool.and_eq_true, List.all_eq_true] at hDi
    obtain ⟨d, hd⟩ := Option.isSome_iff_exists.1 hDi.1.2
    have h2 := hDi.2 i hi
    rw [hd] at h2
    simp only [Bool.and_eq_true, decide_eq_true_eq] at h2
    exact ⟨d, by simpa [dstOf, ho] using hd, h2.1.1⟩
  let F' : Nat → (Nat → Yv) → Yv → Prop := fun i vs x => if i ∈ Dv then x = (E i, []) else F i vs x
  have hF1 : ∀ i ∈ Dv, ∀ vs x, F' i vs x ↔ x = (E i, []) := fun i hi vs x => by show (if i ∈ Dv then _ else _) ↔ _; rw [if_pos hi]
  have hF2 : ∀ i ∈ Df, ∀ vs x, F' i vs x ↔ F i vs x := fun i hi vs x => by show (if i ∈ Dv then _ else _) ↔ _; rw [if_neg (fun h => hdis i h i hi rfl)]
  refine wp_region_facts (n := n) (D := Dv ++ Df) (deps := deps) (A := fun vs => putL ops (fun k => (vs k).1) (Dv ++ Df) a0) (F := F') (L := L) (w0 := w0) hm
    ⟨fun _ => rfl, hok, hn, fun i hi o ho vs M w hG hd hx => ?_⟩ hG hlen (fun vs w hG hF => ?_)
  · have hv : ∀ k ∈ deps i, k ∈ Dv → (vs k).1 = E k := fun k hk hkv => by
      have := (hF1 k hkv _ (vs k)).1 (hd k hk).1
      rw [this]
    obtain ⟨d, hdo, hdn⟩ := hsome i hi o ho
    rcases List.mem_append.1 hi with h | h
    · obtain ⟨B, C, hBC⟩ := List.append_of_mem h
      have hB : ∀ k ∈ deps i, k ∈ B := by
        intro k hk
        have hlt : B.length < Dv.length := by rw [hBC]; simp
        have hp : Dv[B.length]? = some i := by rw [hBC]; simp
        have := hc1 B.length (List.mem_range.2 hlt)
        rw [hp] at this
        have h3 := (List.all_eq_true.1 this) k hk
        rw [hBC] at h3
        simpa using h3
      have hBv : ∀ k ∈ B, k ∈ Dv := fun k hk => by rw [hBC]; exact List.mem_append_left _ hk
      obtain ⟨hwv, hev⟩ := hread i hi o ho vs B (fun k hk => hv k hk (hBv k (hB k hk))) hB hBv
      have hs := hE B i C hBC o ho M w hG
      rw [hwv]
      split
      · rename_i hw
        rw [if_pos hw] at hs
        intro K hK
        have h1 : OpR P o (putL ops E B a0).eval w (fun v w' => v = E i ∧ Own w0 (L ++ M) w') := by
          have h2 := hs (fun a' w' => ∃ v, a' = (putL ops E B a0).put o.dst v ∧ v = E i ∧ Own w0 (L ++ M) w') (fun w' y => ⟨_, rfl, rfl, y⟩)
          rw [hdo] at h2
          exact OpR.of_wp hdo (by rw [putL_size, hn]; exact hdn) h2
        refine OpR.wp (R := fun v w' => v = E i ∧ Own w0 (L ++ M) w') ?_ fun v w' ⟨x, y⟩ => hK v [] w' ((hF1 i h vs _).2 (by rw [x])) (by simpa using y)
        unfold OpR at h1 ⊢
        rw [execOp_congr (ρ := (putL ops (fun k => (vs k).1) (Dv ++ Df) a0).eval) (ρ' := (putL ops E B a0).eval) o (fun cs b => Region.noSelect_spec hsel i o cs b ho) hev]
        exact h1
      · rename_i hw
        rw [if_neg hw] at hs
        exact (hF1 i h vs _).2 (by rw [hs])
    · obtain ⟨hgn, hs⟩ := hEach.all i h o ho
      rw [if_pos (by unfold wantedV; rw [hgn])]
      intro K hK
      have hev : ∀ x ∈ o.op.operands, (putL ops (fun k => (vs k).1) (Dv ++ Df) a0).eval x = (putL ops (fun k => (vs k).1) Df (putL ops E Dv a0)).eval x := by
        intro x hx
        cases x with
        | tmp t =>
          have hDi := hD i hi
          rw [ho] at hDi
          simp only [Bool.and_eq_true, List.all_eq_true] at hDi
          obtain ⟨_, hDj⟩ := hDi
          have hlk : (looks ops o).contains t = true := by
            rw [List.contains_iff_mem]
            exact List.mem_append_left _ (List.mem_filterMap.2 ⟨.tmp t, by simpa using hx, rfl⟩)
          show (putL ops (fun k => (vs k).1) (Dv ++ Df) a0).tmps.getD t undef = (putL ops (fun k => (vs k).1) Df (putL ops E Dv a0)).tmps.getD t undef
          rw [Array.getD_eq_getD_getElem?, Array.getD_eq_getD_getElem?]
          by_cases hj : ∃ j ∈ Dv ++ Df, dstOf ops j = some t
          · obtain ⟨j, hjm, hdj⟩ := hj
            have hjt := hDj j hjm
            rw [hdj] at hjt
            simp only [Bool.and_eq_true, decide_eq_true_eq, hlk, Bool.not_true, Bool.false_or, List.contains_iff_mem] at hjt
            have hlt : t < a0.tmps.size := by rw [hn]; exact hjt.1.1
            rw [putL_hit _ t (Dv ++ Df) a0 j hjm hdj hlt (huniq t j hjm hdj)]
            rcases List.mem_append.1 hjm with hjv | hjf
            · rw [putL_miss _ t Df _ (fun k hk hdk => huniq t j hjm hdj k (List.mem_append_right _ hk) (fun e => hdis j hjv k hk e.symm) hdk),
                putL_hit E t Dv a0 j hjv hdj hlt (fun k hk hne => huniq t j hjm hdj k (List.mem_append_left _ hk) hne), hv j hjt.2 hjv]
            · rw [putL_hit _ t Df _ j hjf hdj (by rw [putL_size]; exact hlt) (fun k hk hne => huniq t j hjm hdj k (List.mem_append_right _ hk) hne)]
          · rw [putL_miss _ t (Dv ++ Df) a0 (fun j hjm hd => hj ⟨j, hjm, hd⟩), putL_miss _ t Df _ (fun j hjm hd => hj ⟨j, List.mem_append_right _ hjm, hd⟩), putL_miss _ t Dv a0 (fun j hjm hd => hj ⟨j, List.mem_append_left _ hjm, hd⟩)]
        | _ => rfl
      have h1 : OpR P o (putL ops (fun k => (vs k).1) Df (putL ops E Dv a0)).eval w (fun v w' => ∃ N, F i (restr (deps i) vs) (v, N) ∧ Own w0 (L ++ M ++ N) w') := by
        have h2 := hs vs M w hG (fun k hk hkf => ⟨(hF2 k hkf _ _).1 (hd k hk).1, (hd k hk).2⟩) (fun a' w' => ∃ v, a' = (putL ops (fun k => (vs k).1) Df (putL ops E Dv a0)).put o.dst v ∧ ∃ N, F i (restr (deps i) vs) (v, N) ∧ Own w0 (L ++ M ++ N) w') (fun v N w' x y => ⟨_, rfl, N, x, y⟩)
        rw [hdo] at h2
        exact OpR.of_wp hdo (by rw [putL_size, putL_size, hn]; exact hdn) h2
      have hvr : restr (deps i) vs = vs := hx.symm
      rw [hvr] at h1
      refine OpR.wp (R := fun v w' => ∃ N, F i vs (v, N) ∧ Own w0 (L ++ M ++ N) w') ?_ fun v w' ⟨N, x, y⟩ => hK v N w' ((hF2 i h vs _).2 x) y
      unfold OpR at h1 ⊢
      rw [execOp_congr (ρ := (putL ops (fun k => (vs k).1) (Dv ++ Df) a0).eval) (ρ' := (putL ops (fun k => (vs k).1) Df (putL ops E Dv a0)).eval) o (fun cs b => Region.noSelect_spec hsel i o cs b ho) hev]
      exact h1
  · rw [hr1, hr2, happ, hputE vs (fun i hi => by rw [(hF1 i hi _ _).1 (hF i (List.mem_append_left _ hi))])]
    refine hend vs w ?_ (fun i hi => (hF2 i hi _ _).1 (hF i (List.mem_append_right _ hi)))
    have : ((Dv ++ Df).flatMap fun i => (vs i).2) = Df.flatMap fun i => (vs i).2 := by
      rw [List.flatMap_append]
      have h0 : ∀ l : List Nat, (∀ i ∈ l, (vs i).2 = []) → (l.flatMap fun i => (vs i).2) = [] := by
        intro l
        induction l with
        | nil => intro _; rfl
        | cons x l ih => intro h; rw [List.flatMap_cons, h x (List.mem_cons_self), ih (fun i hi => h i (List.mem_cons_of_mem _ hi))]; rfl
      rw [h0 Dv (fun i hi => by rw [(hF1 i hi _ _).1 (hF i (List.mem_append_left _ hi))])]
      rfl
    rw [this] at hG
    exact hG

/-- one operation is left -/
theorem wpAny_one {i : Nat} {o : Oper} {fuel : Nat} {listed : Array Bool} {a : Act} {w : World} (hr : Region.ready md ops listed = [i]) (ho : ops[i]? = some o) (hg : o.guard = none)
    (h : ∀ K : Act → World → Prop, (∀ a w, wpAny P md ops Q fuel (listed.setIfInBounds i true) a w → K a w) → o.wp P a w K Q) : wpAny P md ops Q (fuel + 1) listed a w := by
  refine wpAny_all hr (by simp) fun j hj => ?_
  rcases List.mem_singleton.1 hj with rfl
  unfold wpOp
  rw [ho]
  simp only [Region.wanted, hg, if_true]
  exact .inl (h _ fun _ _ h => h)

end

end Go.Proofs.YtmofcbpabdbjlaaGreat.J
