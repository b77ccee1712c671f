/-
  What is proved: the rule for regions that draw their order, where one operation may also come up late, when others that wait have begun.
  Condition: none beyond those of the theorems.
-/
import Derived.Test.YtmofcbpabdbjlaaRq4
namespace Go.Proofs.Ytmofcbpabdbjlaa.J

set_option maxRecDepth 8000

open Go

set_option linter.unusedSimpArgs false

set_option linter.unusedVariables false

section

variable {P : Program} {ops : Array Oper} {Q : Exit → Act → World → Prop} {md : Region.Mode}

def jokE (md : Region.Mode) (ops : Array Oper) (n : Nat) (D : List Nat) (deps : Nat → List Nat) (el : Nat) : Bool :=
  decide D.Nodup && Region.noSelect ops &&
  (D.all fun i => match ops[i]? with
    | none => false
    | some o =>
      (deps i).all (fun k => D.contains k && (anc md ops ops.size i).contains k && (deps k).all fun m => (deps i).contains m) &&
      (match o.guard with | none => true | some (g, _) => (deps i).contains g && (dstOf ops g).isSome) &&
      (dstOf ops i).isSome &&
      D.all (fun j => match dstOf ops j with
        | none => true
        | some t => decide (t < n) && (i == j || dstOf ops i != some t) && (!(looks ops o).contains t || (deps i).contains j))) &&
  ((List.range ops.size).all fun i => D.contains i || D.all fun k => k == el || (anc md ops ops.size i).contains k) &&
  ((List.range ops.size).all fun i => match ops[i]? with
    | none => true
    | some o => o.after.all fun e => !Region.binds md e || decide (e.on < i)) && D.contains el

structure FactsE (P : Program) (md : Region.Mode) (ops : Array Oper) (n : Nat) (D : List Nat) (deps : Nat → List Nat) (el : Nat) (a0 : Act)
    (A : (Nat → Yv) → Act) (F : Nat → (Nat → Yv) → Yv → Prop) (w0 : World) (L : List Res) : Prop where
  act : ∀ vs, putL ops (fun k => (vs k).1) D a0 = A vs
  ok : jokE md ops n D deps el = true
  size : a0.tmps.size = n
  step : ∀ i ∈ D, ∀ o, ops[i]? = some o → ∀ (vs : Nat → Yv) (M : List Res) (w : World), Own w0 (L ++ M) w → (∀ k ∈ deps i, F k (restr (deps k) vs) (vs k) ∧ (vs k).2.Sublist M) → vs = restr (deps i) vs →
    if wantedV o (fun k => (vs k).1) = true then ∀ K : Act → World → Prop, (∀ v N w', F i vs (v, N) → Own w0 (L ++ M ++ N) w' → K ((A vs).put o.dst v) w') → o.wp P (A vs) w K noQ
    else F i vs (undef, [])

theorem any_of_facts_e {el : Nat} {n : Nat} {D : List Nat} {deps : Nat → List Nat} {a0 : Act} {A : (Nat → Yv) → Act} {F : Nat → (Nat → Yv) → Yv → Prop} {w0 : World} {L : List Res}
    (H : FactsE P md ops n D deps el a0 A F w0 L) {r : Nat}
    (hend : ∀ (vs : Nat → Yv) (w : World), Own w0 (L ++ D.flatMap fun i => (vs i).2) w → (∀ i ∈ D, F i (restr (deps i) vs) (vs i)) → wpAny P md ops Q r (listedOf ops.size D) (A vs) w)
    (hend2 : ∀ (vs : Nat → Yv) (w : World), Own w0 (L ++ D.flatMap fun i => (vs i).2) w → (vs el).2 = [] → (∀ i ∈ D, i ≠ el → F i (restr (deps i) vs) (vs i)) → wpAny P md ops Q (r + 1) (listedOf ops.size (D.erase el)) (putL ops (fun k => (vs k).1) (D.erase el) a0) w) :
    ∀ (c : Nat) (listed : Array Bool) (vs : Nat → Yv) (a : Act) (w : World), (left D listed).length = c → listed.size = ops.size → Closed md ops listed →
      (∀ i, i ∉ D → listed.getD i false = false) → Rel ops D a0 (fun k => (vs k).1) listed a → Own w0 (L ++ D.flatMap fun i => (vs i).2) w → (∀ i ∈ D, listed.getD i false = false → (vs i).2 = []) →
      (∀ i ∈ D, listed.getD i false = true → F i (restr (deps i) vs) (vs i)) →
      wpAny P md ops Q (c + r) listed a w := by
  have hok := H.ok
  unfold jokE at hok
  simp only [Bool.and_eq_true, List.all_eq_true, decide_eq_true_eq] at hok
  obtain ⟨⟨⟨⟨⟨hnd, hsel⟩, hD⟩, htail⟩, hbk⟩, hel⟩ := hok
  have hback : ∀ (i : Nat) (o : Oper), ops[i]? = some o → ∀ e ∈ o.after, Region.binds md e = true → e.on < i := by
    intro i o ho e he hb
    have := hbk i (List.mem_range.2 (Array.getElem?_eq_some_iff.1 ho).1)
    rw [ho] at this
    have h2 := (Array.all_eq_true_iff_forall_mem.1 this) e he
    simpa [hb] using h2
  have hDs : ∀ i ∈ D, i < ops.size := by
    intro i hi
    have := hD i hi
    rcases Nat.lt_or_ge i ops.size with h | h
    · exact h
    · rw [Array.getElem?_eq_none h] at this; simp at this
  intro c
  induction c with
  | zero =>
    intro listed vs a w hc hsz hcl hnot hrel hG hE hF
    have hall : ∀ i ∈ D, listed.getD i false = true := by
      intro i hi
      have h0 : left D listed = [] := List.length_eq_zero_iff.1 hc
      unfold left at h0
      rw [List.filter_eq_nil_iff] at h0
      have := h0 i hi
      simpa using this
    have hlist : listed = listedOf ops.size D := by
      refine Array.ext (by simp [listedOf, hsz]) fun i h1 h2 => ?_
      have hv : listed.getD i false = listed[i] := by simp [h1]
      by_cases hi : i ∈ D
      · rw [← hv, hall i hi]; simp [listedOf, hi]
      · rw [← hv, hnot i hi]; simp [listedOf, hi]
    have ha : a = putL ops (fun k => (vs k).1) D a0 := by
      have htm : a.tmps = (putL ops (fun k => (vs k).1) D a0).tmps := by
        refine Array.ext_getElem? fun t => ?_
        by_cases ht : ∃ i ∈ D, dstOf ops i = some t
        · obtain ⟨i, hi, hd⟩ := ht
          by_cases hlt : t < a0.tmps.size
          · rw [hrel.hit i hi (hall i hi) t hd hlt, putL_hit (fun k => (vs k).1) t D a0 i hi hd hlt]
            intro j hj hne hdj
            have := hD i hi
            cases ho : ops[i]? with
            | none => rw [ho] at this; simp at this
            | some o =>
              rw [ho] at this
              simp only [Bool.and_eq_true, List.all_eq_true] at this
              have h2 := this.2 j hj
              rw [hdj] at h2
              simp [hd, Ne.symm hne] at h2
          · rw [Array.getElem?_eq_none (by rw [hrel.size]; omega), Array.getElem?_eq_none (by rw [putL_size]; omega)]
        · rw [hrel.miss t (fun i hi _ hd => ht ⟨i, hi, hd⟩), putL_miss (fun k => (vs k).1) t D a0 (fun i hi hd => ht ⟨i, hi, hd⟩)]
      have hdf : a.defers = (putL ops (fun k => (vs k).1) D a0).defers := by rw [hrel.defers, putL_defers]
      cases a; cases h : putL ops (fun k => (vs k).1) D a0; simp_all
    rw [hlist, ha, H.act]
    simpa using hend vs w hG (fun i hi => hF i hi (hall i hi))
  | succ c ih =>
    intro listed vs a w hc hsz hcl hnot hrel hG hE hF
    by_cases hlast : ∀ i ∈ D, i ≠ el → listed.getD i false = true
    · have hle : listed.getD el false = false := by
        cases h : listed.getD el false with
        | false => rfl
        | true =>
          have h0 : left D listed = [] := by
            unfold left
            rw [List.filter_eq_nil_iff]
            intro i hi
            by_cases hie : i = el
            · rw [hie, h]; decide
            · rw [hlast i hi hie]; decide
          rw [h0] at hc
          simp at hc
      have hem : el ∈ D := by simpa using hel
      have hc0 : c = 0 := by
        have h1 := left_set (D := D) (listed := listed) hnd hem (by rw [hsz]; exact hDs el hem) hle
        have h2 : left D (listed.setIfInBounds el true) = [] := by
          unfold left
          rw [List.filter_eq_nil_iff]
          intro i hi
          by_cases hie : i = el
          · subst hie; simp [hsz, hDs i hi]
          · rw [getD_set_ne false (Ne.symm hie), hlast i hi hie]; decide
        rw [h2] at h1
        simp at h1
        omega
      subst hc0
      have hmem : ∀ i, i ∈ D.erase el ↔ i ≠ el ∧ i ∈ D := fun i => List.Nodup.mem_erase_iff hnd
      have hlist : listed = listedOf ops.size (D.erase el) := by
        refine Array.ext (by simp [listedOf, hsz]) fun i h1 h2 => ?_
        have hv : listed.getD i false = listed[i] := by simp [h1]
        by_cases hi : i ∈ D.erase el
        · have h3 := (hmem i).1 hi
          rw [← hv, hlast i h3.2 h3.1]; simp [listedOf, hi]
        · have h4 : listed.getD i false = false := by
            by_cases hie : i = el
            · rw [hie]; exact hle
            · exact hnot i (fun hd => hi ((hmem i).2 ⟨hie, hd⟩))
          rw [← hv, h4]; simp [listedOf, hi]
      have ha : a = putL ops (fun k => (vs k).1) (D.erase el) a0 := by
        have htm : a.tmps = (putL ops (fun k => (vs k).1) (D.erase el) a0).tmps := by
          refine Array.ext_getElem? fun t => ?_
          by_cases ht : ∃ i ∈ D.erase el, dstOf ops i = some t
          · obtain ⟨i, hi', hd⟩ := ht
            have hi := ((hmem i).1 hi').2
            by_cases hlt : t < a0.tmps.size
            · rw [hrel.hit i hi (hlast i hi ((hmem i).1 hi').1) t hd hlt, putL_hit (fun k => (vs k).1) t (D.erase el) a0 i hi' hd hlt]
              intro j hj' hne hdj
              have hj := ((hmem j).1 hj').2
              have := hD i hi
              cases ho : ops[i]? with
              | none => rw [ho] at this; simp at this
              | some o =>
                rw [ho] at this
                simp only [Bool.and_eq_true, List.all_eq_true] at this
                have h2 := this.2 j hj
                rw [hdj] at h2
                simp [hd, Ne.symm hne] at h2
            · rw [Array.getElem?_eq_none (by rw [hrel.size]; omega), Array.getElem?_eq_none (by rw [putL_size]; omega)]
          · rw [hrel.miss t (fun i hi hl hd => ht ⟨i, (hmem i).2 ⟨fun e => (by rw [e, hle] at hl; cases hl), hi⟩, hd⟩), putL_miss (fun k => (vs k).1) t (D.erase el) a0 (fun i hi hd => ht ⟨i, hi, hd⟩)]
        have hdf : a.defers = (putL ops (fun k => (vs k).1) (D.erase el) a0).defers := by rw [hrel.defers, putL_defers]
        cases a; cases h : putL ops (fun k => (vs k).1) (D.erase el) a0; simp_all
      rw [hlist, ha, show 0 + 1 + r = r + 1 by omega]
      exact hend2 vs w hG (hE el hem hle) (fun i hi hne => hF i hi (hlast i hi hne))
    have hun : ∃ i ∈ D, i ≠ el ∧ listed.getD i false = false := by
      refine Classical.byContradiction fun hno => hlast fun i hi hne => ?_
      cases h : listed.getD i false with
      | true => rfl
      | false => exact absurd ⟨i, hi, hne, h⟩ hno
    have hne : Region.ready md ops listed ≠ [] := by
      obtain ⟨i, hi, _, hu⟩ := hun
      exact ready_ne hsz hback i (hDs i hi) hu
    rw [show c + 1 + r = (c + r) + 1 by omega]
    refine ⟨fun h => absurd h hne, fun i hi => ?_⟩
    obtain ⟨hu, o, ho, hall⟩ := mem_ready.1 hi
    have hanc := anc_listed hcl ops.size i (fun o' ho' e he hb => by rw [ho] at ho'; injection ho' with ho'; subst ho'; exact hall e he hb)
    have hilt : i < ops.size := (Array.getElem?_eq_some_iff.1 ho).1
    have hu' : listed.getD i false = false := by
      have h1 : listed[i]? = some listed[i] := Array.getElem?_eq_getElem (by omega)
      simp [hsz, hilt] at hu ⊢; exact hu
    have hiD : i ∈ D := by
      have := htail i (List.mem_range.2 hilt)
      simp only [Bool.or_eq_true, List.contains_iff_mem, List.all_eq_true] at this
      rcases this with h | h
      · exact h
      · obtain ⟨j, hj, hje, hju⟩ := hun
        have h5 : j ∈ anc md ops ops.size i := by
          rcases h j hj with h5 | h5
          · exact absurd (by simpa using h5) hje
          · exact h5
        rw [hanc j h5] at hju
        cases hju
    have hDi := hD i hiD
    rw [ho] at hDi
    simp only [Bool.and_eq_true, List.all_eq_true] at hDi
    obtain ⟨⟨⟨hdep, hgd⟩, hsome⟩, hDj⟩ := hDi
    have hdepL : ∀ k ∈ deps i, k ∈ D ∧ listed.getD k false = true := by
      intro k hk
      have h2 := hdep k hk
      simp only [Bool.and_eq_true, List.contains_iff_mem] at h2
      exact ⟨h2.1.1, hanc k h2.1.2⟩
    let vd : Nat → Yv := restr (deps i) vs
    have hvd : ∀ k ∈ deps i, vd k = vs k := fun k hk => restr_mem (by simpa using hk)
    have hdd : ∀ k ∈ deps i, ∀ m ∈ deps k, m ∈ deps i := by
      intro k hk m hm
      have := hD i hiD
      rw [ho] at this
      simp only [Bool.and_eq_true, List.all_eq_true] at this
      have h2 := this.1.1.1 k hk
      simp only [Bool.and_eq_true, List.contains_iff_mem, List.all_eq_true] at h2
      exact h2.2 m hm
    have hst := H.step i hiD o ho vd (D.flatMap fun i => (vs i).2) w hG (fun k hk => by
      rw [hvd k hk, show restr (deps k) vd = restr (deps k) vs from restr_restr (hdd k hk)]
      exact ⟨hF k (hdepL k hk).1 (hdepL k hk).2, sub_flatMap (fun i => (vs i).2) (hdepL k hk).1⟩) (restr_restr (fun k hk => hk)).symm
    have huniq : ∀ t, ∀ j ∈ D, dstOf ops j = some t → ∀ k ∈ D, k ≠ j → dstOf ops k ≠ some t := by
      intro t j hj hd k hk hne hdk
      have := hD k hk
      cases hok : ops[k]? with
      | none => rw [hok] at this; simp at this
      | some ok =>
        rw [hok] at this
        simp only [Bool.and_eq_true, List.all_eq_true] at this
        have h2 := this.2 j hj
        rw [hd] at h2
        simp [hdk, hne] at h2
    -- an operand reads in the frame at hand as in the last one
    have hread : ∀ x ∈ o.op.operands, a.eval x = (A vd).eval x := by
      intro x hx
      rw [← H.act vd]
      cases x with
      | tmp t =>
        have hlk : (looks ops o).contains t = true := by
          rw [List.contains_iff_mem]
          exact List.mem_append_left _ (List.mem_filterMap.2 ⟨.tmp t, by simpa using hx, rfl⟩)
        show a.tmps.getD t undef = (putL ops (fun k => (vd k).1) D a0).tmps.getD t undef
        rw [Array.getD_eq_getD_getElem?, Array.getD_eq_getD_getElem?]
        by_cases hj : ∃ j ∈ D, dstOf ops j = some t
        · obtain ⟨j, hjm, hdj⟩ := hj
          have hjt := hDj j hjm
          rw [hdj] at hjt
          simp only [Bool.and_eq_true, decide_eq_true_eq, hlk, Bool.not_true, Bool.false_or, List.contains_iff_mem] at hjt
          have hlt : t < a0.tmps.size := by rw [H.size]; exact hjt.1.1
          rw [hrel.hit j hjm (hdepL j hjt.2).2 t hdj hlt, putL_hit (fun k => (vd k).1) t D a0 j hjm hdj hlt (huniq t j hjm hdj), show (vd j).1 = (vs j).1 from by rw [hvd j hjt.2]]
        · rw [hrel.miss t (fun j hjm _ hd => hj ⟨j, hjm, hd⟩), putL_miss (fun k => (vd k).1) t D a0 (fun j hjm hd => hj ⟨j, hjm, hd⟩)]
      | _ => rfl
    have hwant : Region.wanted o (yielded ops a.tmps) = wantedV o (fun k => (vd k).1) := by
      unfold Region.wanted wantedV
      cases hg : o.guard with
      | none => rfl
      | some gw =>
        obtain ⟨g, want⟩ := gw
        rw [hg] at hgd
        simp only [Bool.and_eq_true, List.contains_iff_mem] at hgd
        obtain ⟨hgm, hgs⟩ := hgd
        obtain ⟨t, hgt⟩ := Option.isSome_iff_exists.1 hgs
        have hjt := hDj g (hdepL g hgm).1
        rw [hgt] at hjt
        simp only [Bool.and_eq_true, decide_eq_true_eq] at hjt
        have hh := hrel.hit g (hdepL g hgm).1 (hdepL g hgm).2 t hgt (by rw [H.size]; exact hjt.1.1)
        have hy : yielded ops a.tmps g = match (vs g).1 with | .bool b => some b | _ => none := by
          unfold yielded
          unfold dstOf at hgt
          rw [hgt]
          simp only [Option.bind_some, hh]
          cases (vs g).1 <;> rfl
        show (yielded ops a.tmps g == some want) = (match (vd g).1 with | .bool b => b == want | _ => false)
        rw [hy, hvd g hgm]
        cases hv : (vs g).1 <;> rfl
    -- what follows behind it
    have hnext : ∀ v N w', F i vd (v, N) → Own w0 (L ++ (D.flatMap fun i => (vs i).2) ++ N) w' → wpAny P md ops Q (c + r) (listed.setIfInBounds i true) (a.put o.dst v) w' := by
      intro v N w' hFi hGw
      have hdi : dstOf ops i = o.dst := by simp [dstOf, ho]
      let vs' : Nat → Yv := fun k => if k = i then (v, N) else vs k
      have hnl : ∀ k, listed.getD k false = true → k ≠ i := fun k hk e => by rw [e, hu'] at hk; cases hk
      have hvs : ∀ k, k ≠ i → vs' k = vs k := fun k hk => if_neg hk
      have hvi : vs' i = (v, N) := if_pos rfl
      have hcl' := closed_set hcl hi
      refine ih (listed.setIfInBounds i true) vs' (a.put o.dst v) w' ?_ (by simpa using hsz) hcl' ?_ ?_ ?_ ?_ ?_
      · have := left_set (D := D) (listed := listed) hnd hiD (by omega) hu'
        omega
      · intro j hj
        rw [getD_set_ne false (fun e => hj (by rw [← e]; exact hiD))]
        exact hnot j hj
      · refine ⟨by rw [put_defers]; exact hrel.defers, by rw [put_size]; exact hrel.size, ?_, ?_⟩
        · intro j hj hl t hd hlt
          rw [put_tmps]
          by_cases hji : j = i
          · subst hji
            rw [if_pos ⟨by rw [← hdi]; exact hd, by rw [hrel.size]; exact hlt⟩]
            simp [vs']
          · rw [getD_set_ne false (Ne.symm hji)] at hl
            rw [if_neg, hrel.hit j hj hl t hd hlt, hvs j hji]
            rintro ⟨h1, _⟩
            have hjt := hDj j hj
            rw [hd] at hjt
            simp [hdi, h1, Ne.symm hji] at hjt
        · intro t hm
          rw [put_tmps, if_neg, hrel.miss t]
          · intro j hj hl
            exact hm j hj (getD_set_true hl)
          · rintro ⟨h1, _⟩
            exact hm i hiD (by simp [hsz, hilt]) (by rw [hdi]; exact h1)
      · refine hGw.perm ?_
        rw [List.append_assoc]
        refine List.Perm.append_left L ?_
        exact perm_flatMap hnd hiD (fun k => (vs k).2) (fun k => (vs' k).2) N (hE i hiD hu') (by rw [hvi]) (fun k hk => by rw [hvs k hk])
      · intro j hj hl
        by_cases hji : j = i
        · subst hji
          rw [show (listed.setIfInBounds j true).getD j false = true by simp [hsz, hilt]] at hl
          cases hl
        · rw [getD_set_ne false (Ne.symm hji)] at hl
          rw [hvs j hji]
          exact hE j hj hl
      · intro j hj hl
        by_cases hji : j = i
        · subst hji
          rw [hvi, show restr (deps j) vs' = vd from restr_congr (fun k hk => hvs k (hnl k (hdepL k hk).2))]
          exact hFi
        · rw [getD_set_ne false (Ne.symm hji)] at hl
          have hFj := hF j hj hl
          rw [hvs j hji, show restr (deps j) vs' = restr (deps j) vs from restr_congr (fun k hk => ?_)]
          · exact hFj
          · have hDjj := hD j hj
            cases hoj : ops[j]? with
            | none => rw [hoj] at hDjj; simp at hDjj
            | some oj =>
              rw [hoj] at hDjj
              simp only [Bool.and_eq_true, List.all_eq_true] at hDjj
              have h2 := hDjj.1.1.1 k hk
              simp only [Bool.and_eq_true, List.contains_iff_mem] at h2
              have := anc_listed hcl ops.size j (fun o' ho' e he hb => hcl j hl o' ho' e he hb) k h2.1.2
              exact hvs k (hnl k this)
    unfold wpOp
    rw [ho]
    simp only []
    by_cases hw : wantedV o (fun k => (vd k).1) = true
    · rw [if_pos (by rw [hwant]; exact hw)]
      rw [if_pos hw] at hst
      obtain ⟨d, hd⟩ := Option.isSome_iff_exists.1 hsome
      have hdo : o.dst = some d := by simpa [dstOf, ho] using hd
      have hdn : d < (A vd).tmps.size := by
        have := hDj i hiD
        rw [hd] at this
        simp only [Bool.and_eq_true, decide_eq_true_eq] at this
        rw [← H.act, putL_size, H.size]
        exact this.1.1
      have h1 : OpR P o (A vd).eval w (fun v w' => ∃ N, F i vd (v, N) ∧ Own w0 (L ++ (D.flatMap fun i => (vs i).2) ++ N) w') := by
        have h2 := hst (fun a' w' => ∃ v, a' = (A vd).put o.dst v ∧ ∃ N, F i vd (v, N) ∧ Own w0 (L ++ (D.flatMap fun i => (vs i).2) ++ N) w') (fun v N w' x y => ⟨v, rfl, N, x, y⟩)
        rw [hdo] at h2
        exact OpR.of_wp hdo hdn h2
      refine .inl (OpR.wp (R := fun v w' => ∃ N, F i vd (v, N) ∧ Own w0 (L ++ (D.flatMap fun i => (vs i).2) ++ N) w') ?_ fun v w' ⟨N, x, y⟩ => hnext v N w' x y)
      unfold OpR at h1 ⊢
      rw [execOp_congr (ρ := a.eval) (ρ' := (A vd).eval) o (fun cs b => Region.noSelect_spec hsel i o cs b ho) hread]
      exact h1
    · rw [if_neg (by rw [hwant]; exact hw)]
      rw [if_neg hw] at hst
      exact hnext undef [] w hst (by simpa using hG)

theorem wp_region_facts_e {el : Nat} {id : Nat} {n : Nat} {D : List Nat} {deps : Nat → List Nat} {a0 : Act} {w w0 : World} {A : (Nat → Yv) → Act} {F : Nat → (Nat → Yv) → Yv → Prop} {L : List Res}
    (hm : P.follows .mixedOrders = true) (H : FactsE P .any ops n D deps el a0 A F w0 L) (hG : Own w0 L w) (hlen : D.length ≤ ops.size)
    (hend : ∀ (vs : Nat → Yv) (w : World), Own w0 (L ++ D.flatMap fun i => (vs i).2) w → (∀ i ∈ D, F i (restr (deps i) vs) (vs i)) → wpAny P .any ops Q (ops.size - D.length) (listedOf ops.size D) (A vs) w)
    (hend2 : ∀ (vs : Nat → Yv) (w : World), Own w0 (L ++ D.flatMap fun i => (vs i).2) w → (vs el).2 = [] → (∀ i ∈ D, i ≠ el → F i (restr (deps i) vs) (vs i)) → wpAny P .any ops Q (ops.size - D.length + 1) (listedOf ops.size (D.erase el)) (putL ops (fun k => (vs k).1) (D.erase el) a0) w) :
    (Code.region id ops true).wp P Q a0 w := by
  refine wp_region_any hm ?_
  have hfalse : ∀ i, (Array.replicate ops.size false).getD i false = false := by
    intro i
    by_cases h : i < ops.size <;> simp [h]
  have hleft : left D (Array.replicate ops.size false) = D := by
    unfold left
    exact List.filter_eq_self.2 fun i _ => by simp [hfalse i]
  have hnil : (D.flatMap fun _ => ([] : List Res)) = [] := by
    generalize D = E
    induction E with
    | nil => rfl
    | cons x E ih => rw [List.flatMap_cons, ih]; rfl
  have := any_of_facts_e (Q := Q) H (r := ops.size - D.length) hend hend2 D.length (Array.replicate ops.size false) (fun _ => (undef, [])) a0 { w with drawn := w.drawn + 1 }
    (by rw [hleft]) (by simp) (fun i hi => (by rw [hfalse i] at hi; cases hi)) (fun i _ => hfalse i)
    ⟨rfl, rfl, fun i _ hl => (by rw [hfalse i] at hl; cases hl), fun t _ => rfl⟩ (by simp only [hnil, List.append_nil]; exact hG.drew) (fun i _ _ => rfl) (fun i _ hl => (by rw [hfalse i] at hl; cases hl))
  rw [show D.length + (ops.size - D.length) = ops.size by omega] at this
  exact this

theorem wp_region_e {id : Nat} {n : Nat} (Dv Df : List Nat) (el : Nat) {deps : Nat → List Nat} {a0 : Act} {w w0 : World} {L : List Res} (F : Nat → (Nat → Yv) → Yv → Prop) {r : Nat} {lst lst2 : Array Bool}
    (hm : P.follows .mixedOrders = true) (hok : jokE .any ops n (Dv ++ Df) deps el = true) (hel : Df.contains el = true) (hr2 : listedOf ops.size (Dv ++ Df.erase el) = lst2) (hcok : cok Dv Df deps = true) (hn : a0.tmps.size = n) (hlen : (Dv ++ Df).length ≤ ops.size) (hr : (ops.size - (Dv ++ Df).length, listedOf ops.size (Dv ++ Df)) = (r, lst)) (hG : Own w0 L w)
    (chain : Chain P ops w0 L Dv a0 fun A => Each ops (stepN P w0 L Df deps F (fun vs => putL ops (fun k => (vs k).1) Df A)) Df ∧
      (∀ (vs : Nat → Yv) (w : World), Own w0 (L ++ Df.flatMap fun i => (vs i).2) w → (∀ i ∈ Df, F i (restr (deps i) vs) (vs i)) → wpAny P .any ops Q r lst (putL ops (fun k => (vs k).1) Df A) w) ∧
      ∀ (vs : Nat → Yv) (w : World), Own w0 (L ++ (Df.erase el).flatMap fun i => (vs i).2) w → (∀ i ∈ Df, i ≠ el → F i (restr (deps i) vs) (vs i)) → wpAny P .any ops Q (r + 1) lst2 (putL ops (fun k => (vs k).1) (Df.erase el) A) w) :
    (Code.region id ops true).wp P Q a0 w := by
  injection hr with hr1 hr3
  have hk := hok
  unfold jokE at hk
  simp only [Bool.and_eq_true, List.all_eq_true, decide_eq_true_eq] at hk
  obtain ⟨⟨⟨⟨⟨hnd, hsel⟩, hD⟩, htail⟩, hbk⟩, hel0⟩ := hk
  unfold cok at hcok
  simp only [List.all_eq_true] at hcok
  have hc1 := hcok
  have hndv : Dv.Nodup := (List.nodup_append.1 hnd).1
  have hndf : Df.Nodup := (List.nodup_append.1 hnd).2.1
  have hdis : ∀ a ∈ Dv, ∀ b ∈ Df, a ≠ b := (List.nodup_append.1 hnd).2.2
  obtain ⟨E, ⟨hEach, hend, hend2⟩, hE⟩ := Chain.out hndv chain
  have huniq : ∀ t, ∀ j ∈ Dv ++ Df, dstOf ops j = some t → ∀ k ∈ Dv ++ Df, k ≠ j → dstOf ops k ≠ some t := by
    intro t j hj hd k hk hne hdk
    have := hD k hk
    cases hok : ops[k]? with
    | none => rw [hok] at this; simp at this
    | some ok =>
      rw [hok] at this
      simp only [Bool.and_eq_true, List.all_eq_true] at this
      have h2 := this.2 j hj
      rw [hd] at h2
      simp [hdk, hne] at h2
  have hputE : ∀ (vs : Nat → Yv), (∀ i ∈ Dv, (vs i).1 = E i) → ∀ (b : Act), putL ops (fun k => (vs k).1) Dv b = putL ops E Dv b := by
    intro vs h
    clear hok hlen hc1 hcok hE hEach hend hend2 chain hr1 hr2 hr3 hnd hD htail hdis hndv huniq hel hel0
    induction Dv with
    | nil => intro b; rfl
    | cons x D ih =>
      intro b
      rw [putL, putL, h x (List.mem_cons_self)]
      exact ih (fun i hi => h i (List.mem_cons_of_mem _ hi)) _
  have happ : ∀ (vs : Nat → Value) (X Y : List Nat) (b : Act), putL ops vs (X ++ Y) b = putL ops vs Y (putL ops vs X b) := by
    intro vs X Y
    induction X with
    | nil => intro b; rfl
    | cons x X ih => intro b; rw [List.cons_append, putL, putL]; exact ih _
  -- what an operation reads in a frame in which all of B have come up is what it reads in the last one
  have hread : ∀ i ∈ Dv ++ Df, ∀ o, ops[i]? = some o → ∀ (vs : Nat → Yv) (B : List Nat), (∀ k ∈ deps i, (vs k).1 = E k) → (∀ k ∈ deps i, k ∈ B) → (∀ k ∈ B, k ∈ Dv) → 
      (wantedV o (fun k => (vs k).1) = Region.wanted o (yielded ops (putL ops E B a0).tmps)) ∧ ∀ x ∈ o.op.operands, (putL ops (fun k => (vs k).1) (Dv ++ Df) a0).eval x = (putL ops E B a0).eval x := by
    intro i hi o ho vs B hv hB hBv
    have hDi := hD i hi
    rw [ho] at hDi
    simp only [Bool.and_eq_true, List.all_eq_true] at hDi
    obtain ⟨⟨⟨hdep, hgd⟩, hsome⟩, hDj⟩ := hDi
    have hhit : ∀ t, ∀ j ∈ deps i, dstOf ops j = some t → t < a0.tmps.size → (putL ops E B a0).tmps[t]? = some (E j) := by
      intro t j hj hd hlt
      exact putL_hit E t B a0 j (hB j hj) hd hlt (fun k hk hne => huniq t j (List.mem_append_left _ (hBv j (hB j hj))) hd k (List.mem_append_left _ (hBv k hk)) hne)
    refine ⟨?_, ?_⟩
    · unfold Region.wanted wantedV
      cases hg : o.guard with
      | none => rfl
      | some gw =>
        obtain ⟨g, want⟩ := gw
        rw [hg] at hgd
        simp only [Bool.and_eq_true, List.contains_iff_mem] at hgd
        obtain ⟨hgm, hgs⟩ := hgd
        obtain ⟨t, hgt⟩ := Option.isSome_iff_exists.1 hgs
        have hgD : g ∈ Dv ++ Df := List.mem_append_left _ (hBv g (hB g hgm))
        have hjt := hDj g hgD
        rw [hgt] at hjt
        simp only [Bool.and_eq_true, decide_eq_true_eq] at hjt
        have hh := hhit t g hgm hgt (by rw [hn]; exact hjt.1.1)
        have hy : yielded ops (putL ops E B a0).tmps g = match E g with | .bool b => some b | _ => none := by
          unfold yielded
          unfold dstOf at hgt
          rw [hgt]
          simp only [Option.bind_some, hh]
          cases E g <;> rfl
        show (match (vs g).1 with | .bool b => b == want | _ => false) = (yielded ops (putL ops E B a0).tmps g == some want)
        rw [hy, hv g hgm]
        cases E g <;> rfl
    · intro x hx
      cases x with
      | tmp t =>
        have hlk : (looks ops o).contains t = true := by
          rw [List.contains_iff_mem]
          exact List.mem_append_left _ (List.mem_filterMap.2 ⟨.tmp t, by simpa using hx, rfl⟩)
        show (putL ops (fun k => (vs k).1) (Dv ++ Df) a0).tmps.getD t undef = (putL ops E B a0).tmps.getD t undef
        rw [Array.getD_eq_getD_getElem?, Array.getD_eq_getD_getElem?]
        by_cases hj : ∃ j ∈ Dv ++ Df, dstOf ops j = some t
        · obtain ⟨j, hjm, hdj⟩ := hj
          have hjt := hDj j hjm
          rw [hdj] at hjt
          simp only [Bool.and_eq_true, decide_eq_true_eq, hlk, Bool.not_true, Bool.false_or, List.contains_iff_mem] at hjt
          have hlt : t < a0.tmps.size := by rw [hn]; exact hjt.1.1
          rw [putL_hit _ t (Dv ++ Df) a0 j hjm hdj hlt (huniq t j hjm hdj), hhit t j hjt.2 hdj hlt, hv j hjt.2]
        · rw [putL_miss _ t (Dv ++ Df) a0 (fun j hjm hd => hj ⟨j, hjm, hd⟩), putL_miss _ t B a0 (fun j hjm hd => hj ⟨j, List.mem_append_left _ (hBv j hjm), hd⟩)]
      | _ => rfl
  have hsome : ∀ i ∈ Dv ++ Df, ∀ o, ops[i]? = some o → ∃ d, o.dst = some d ∧ d < n := by
    intro i hi o ho
    have hDi := hD i hi
    rw [ho] at hDi
    simp only [Bool.and_eq_true, List.all_eq_true] at hDi
    obtain ⟨d, hd⟩ := Option.isSome_iff_exists.1 hDi.1.2
    have h2 := hDi.2 i hi
    rw [hd] at h2
    simp only [Bool.and_eq_true, decide_eq_true_eq] at h2
    exact ⟨d, by simpa [dstOf, ho] using hd, h2.1.1⟩
  let F' : Nat → (Nat → Yv) → Yv → Prop := fun i vs x => if i ∈ Dv then x = (E i, []) else F i vs x
  have hF1 : ∀ i ∈ Dv, ∀ vs x, F' i vs x ↔ x = (E i, []) := fun i hi vs x => by show (if i ∈ Dv then _ else _) ↔ _; rw [if_pos hi]
  have hF2 : ∀ i ∈ Df, ∀ vs x, F' i vs x ↔ F i vs x := fun i hi vs x => by show (if i ∈ Dv then _ else _) ↔ _; rw [if_neg (fun h => hdis i h i hi rfl)]
  refine wp_region_facts_e (n := n) (el := el) (D := Dv ++ Df) (deps := deps) (A := fun vs => putL ops (fun k => (vs k).1) (Dv ++ Df) a0) (F := F') (L := L) (w0 := w0) hm
    ⟨fun _ => rfl, hok, hn, fun i hi o ho vs M w hG hd hx => ?_⟩ hG hlen (fun vs w hG hF => ?_) (fun vs w hG hve hF => ?_)
  · have hv : ∀ k ∈ deps i, k ∈ Dv → (vs k).1 = E k := fun k hk hkv => by
      have := (hF1 k hkv _ (vs k)).1 (hd k hk).1
      rw [this]
    obtain ⟨d, hdo, hdn⟩ := hsome i hi o ho
    rcases List.mem_append.1 hi with h | h
    · obtain ⟨B, C, hBC⟩ := List.append_of_mem h
      have hB : ∀ k ∈ deps i, k ∈ B := by
        intro k hk
        have hlt : B.length < Dv.length := by rw [hBC]; simp
        have hp : Dv[B.length]? = some i := by rw [hBC]; simp
        have := hc1 B.length (List.mem_range.2 hlt)
        rw [hp] at this
        have h3 := (List.all_eq_true.1 this) k hk
        rw [hBC] at h3
        simpa using h3
      have hBv : ∀ k ∈ B, k ∈ Dv := fun k hk => by rw [hBC]; exact List.mem_append_left _ hk
      obtain ⟨hwv, hev⟩ := hread i hi o ho vs B (fun k hk => hv k hk (hBv k (hB k hk))) hB hBv
      have hs := hE B i C hBC o ho M w hG
      rw [hwv]
      split
      · rename_i hw
        rw [if_pos hw] at hs
        intro K hK
        have h1 : OpR P o (putL ops E B a0).eval w (fun v w' => v = E i ∧ Own w0 (L ++ M) w') := by
          have h2 := hs (fun a' w' => ∃ v, a' = (putL ops E B a0).put o.dst v ∧ v = E i ∧ Own w0 (L ++ M) w') (fun w' y => ⟨_, rfl, rfl, y⟩)
          rw [hdo] at h2
          exact OpR.of_wp hdo (by rw [putL_size, hn]; exact hdn) h2
        refine OpR.wp (R := fun v w' => v = E i ∧ Own w0 (L ++ M) w') ?_ fun v w' ⟨x, y⟩ => hK v [] w' ((hF1 i h vs _).2 (by rw [x])) (by simpa using y)
        unfold OpR at h1 ⊢
        rw [execOp_congr (ρ := (putL ops (fun k => (vs k).1) (Dv ++ Df) a0).eval) (ρ' := (putL ops E B a0).eval) o (fun cs b => Region.noSelect_spec hsel i o cs b ho) hev]
        exact h1
      · rename_i hw
        rw [if_neg hw] at hs
        exact (hF1 i h vs _).2 (by rw [hs])
    · obtain ⟨hgn, hs⟩ := hEach.all i h o ho
      rw [if_pos (by unfold wantedV; rw [hgn])]
      intro K hK
      have hev : ∀ x ∈ o.op.operands, (putL ops (fun k => (vs k).1) (Dv ++ Df) a0).eval x = (putL ops (fun k => (vs k).1) Df (putL ops E Dv a0)).eval x := by
        intro x hx
        cases x with
        | tmp t =>
          have hDi := hD i hi
          rw [ho] at hDi
          simp only [Bool.and_eq_true, List.all_eq_true] at hDi
          obtain ⟨_, hDj⟩ := hDi
          have hlk : (looks ops o).contains t = true := by
            rw [List.contains_iff_mem]
            exact List.mem_append_left _ (List.mem_filterMap.2 ⟨.tmp t, by simpa using hx, rfl⟩)
          show (putL ops (fun k => (vs k).1) (Dv ++ Df) a0).tmps.getD t undef = (putL ops (fun k => (vs k).1) Df (putL ops E Dv a0)).tmps.getD t undef
          rw [Array.getD_eq_getD_getElem?, Array.getD_eq_getD_getElem?]
          by_cases hj : ∃ j ∈ Dv ++ Df, dstOf ops j = some t
          · obtain ⟨j, hjm, hdj⟩ := hj
            have hjt := hDj j hjm
            rw [hdj] at hjt
            simp only [Bool.and_eq_true, decide_eq_true_eq, hlk, Bool.not_true, Bool.false_or, List.contains_iff_mem] at hjt
            have hlt : t < a0.tmps.size := by rw [hn]; exact hjt.1.1
            rw [putL_hit _ t (Dv ++ Df) a0 j hjm hdj hlt (huniq t j hjm hdj)]
            rcases List.mem_append.1 hjm with hjv | hjf
            · rw [putL_miss _ t Df _ (fun k hk hdk => huniq t j hjm hdj k (List.mem_append_right _ hk) (fun e => hdis j hjv k hk e.symm) hdk),
                putL_hit E t Dv a0 j hjv hdj hlt (fun k hk hne => huniq t j hjm hdj k (List.mem_append_left _ hk) hne), hv j hjt.2 hjv]
            · rw [putL_hit _ t Df _ j hjf hdj (by rw [putL_size]; exact hlt) (fun k hk hne => huniq t j hjm hdj k (List.mem_append_right _ hk) hne)]
          · rw [putL_miss _ t (Dv ++ Df) a0 (fun j hjm hd => hj ⟨j, hjm, hd⟩), putL_miss _ t Df _ (fun j hjm hd => hj ⟨j, List.mem_append_right _ hjm, hd⟩), putL_miss _ t Dv a0 (fun j hjm hd => hj ⟨j, List.mem_append_left _ hjm, hd⟩)]
        | _ => rfl
      have h1 : OpR P o (putL ops (fun k => (vs k).1) Df (putL ops E Dv a0)).eval w (fun v w' => ∃ N, F i (restr (deps i) vs) (v, N) ∧ Own w0 (L ++ M ++ N) w') := by
        have h2 := hs vs M w hG (fun k hk hkf => ⟨(hF2 k hkf _ _).1 (hd k hk).1, (hd k hk).2⟩) (fun a' w' => ∃ v, a' = (putL ops (fun k => (vs k).1) Df (putL ops E Dv a0)).put o.dst v ∧ ∃ N, F i (restr (deps i) vs) (v, N) ∧ Own w0 (L ++ M ++ N) w') (fun v N w' x y => ⟨_, rfl, N, x, y⟩)
        rw [hdo] at h2
        exact OpR.of_wp hdo (by rw [putL_size, putL_size, hn]; exact hdn) h2
      have hvr : restr (deps i) vs = vs := hx.symm
      rw [hvr] at h1
      refine OpR.wp (R := fun v w' => ∃ N, F i vs (v, N) ∧ Own w0 (L ++ M ++ N) w') ?_ fun v w' ⟨N, x, y⟩ => hK v N w' ((hF2 i h vs _).2 x) y
      unfold OpR at h1 ⊢
      rw [execOp_congr (ρ := (putL ops (fun k => (vs k).1) (Dv ++ Df) a0).eval) (ρ' := (putL ops (fun k => (vs k).1) Df (putL ops E Dv a0)).eval) o (fun cs b => Region.noSelect_spec hsel i o cs b ho) hev]
      exact h1
  · rw [hr1, hr3, happ, hputE vs (fun i hi => by rw [(hF1 i hi _ _).1 (hF i (List.mem_append_left _ hi))])]
    refine hend vs w ?_ (fun i hi => (hF2 i hi _ _).1 (hF i (List.mem_append_right _ hi)))
    have : ((Dv ++ Df).flatMap fun i => (vs i).2) = Df.flatMap fun i => (vs i).2 := by
      rw [List.flatMap_append]
      have h0 : ∀ l : List Nat, (∀ i ∈ l, (vs i).2 = []) → (l.flatMap fun i => (vs i).2) = [] := by
        intro l
        induction l with
        | nil => intro _; rfl
        | cons x l ih => intro h; rw [List.flatMap_cons, h x (List.mem_cons_self), ih (fun i hi => h i (List.mem_cons_of_mem _ hi))]; rfl
      rw [h0 Dv (fun i hi => by rw [(hF1 i hi _ _).1 (hF i (List.mem_append_left _ hi))])]
      rfl
    rw [this] at hG
    exact hG
  · have hem : el ∈ Df := by simpa using hel
    have hdv : ∀ i ∈ Dv, i ≠ el := fun i hi => hdis i hi el hem
    have herase : (Dv ++ Df).erase el = Dv ++ Df.erase el := List.erase_append_right _ (fun h => hdv el h rfl)
    rw [hr1, herase, hr2, happ, hputE vs (fun i hi => by rw [(hF1 i hi _ _).1 (hF i (List.mem_append_left _ hi) (hdv i hi))])]
    refine hend2 vs w ?_ (fun i hi hne => (hF2 i hi _ _).1 (hF i (List.mem_append_right _ hi) hne))
    have : ((Dv ++ Df).flatMap fun i => (vs i).2) = (Df.erase el).flatMap fun i => (vs i).2 := by
      rw [List.flatMap_append]
      have h0 : ∀ l : List Nat, (∀ i ∈ l, (vs i).2 = []) → (l.flatMap fun i => (vs i).2) = [] := by
        intro l
        induction l with
        | nil => intro _; rfl
        | cons x l ih => intro h; rw [List.flatMap_cons, h x (List.mem_cons_self), ih (fun i hi => h i (List.mem_cons_of_mem _ hi))]; rfl
      rw [h0 Dv (fun i hi => by rw [(hF1 i hi _ _).1 (hF i (List.mem_append_left _ hi) (hdv i hi))])]
      have h1 : ∀ l : List Nat, (l.flatMap fun i => (vs i).2) = (l.erase el).flatMap fun i => (vs i).2 := by
        intro l
        induction l with
        | nil => rfl
        | cons x l ih =>
          by_cases hx : x = el
          · subst hx; rw [List.erase_cons_head, List.flatMap_cons, hve]; rfl
          · rw [List.erase_cons_tail (by simpa using hx), List.flatMap_cons, List.flatMap_cons, ih]
      rw [← h1 Df]
      rfl
    rw [this] at hG
    exact hG

end

end Go.Proofs.Ytmofcbpabdbjlaa.J
