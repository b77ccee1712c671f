/-
  What is proved: things of a call's own packed into one thing, chosen and put in another order.
  No condition.
-/
import Derived.Test.YtmofcbpabdbjlaaVr
namespace Go.Proofs.Ytmofcbpabdbjlaa
set_option maxRecDepth 8000
open Go.RowKit
set_option linter.unusedVariables false
set_option linter.unusedSimpArgs false

/-- many things as one -/
def pack (F : List Res) : Res where
  foot := fun b => ∃ r ∈ F, r.foot b
  holds := fun w => (∀ r ∈ F, r.holds w) ∧ F.Pairwise fun (r s : Res) => ∀ b : Nat, r.foot b → ¬ s.foot b
  loc := fun w w' h hw => ⟨fun r hr => r.loc w w' (fun b hb => h b ⟨r, hr, hb⟩) (hw.1 r hr), hw.2⟩

section
variable {w0 w w' : World} {F G L : List Res} {r s : Res}
theorem Own.pack (h : Own w0 (F ++ L) w) : Own w0 (pack F :: L) w := by
  obtain ⟨h1, h2, h3, h4⟩ := h
  obtain ⟨p1, p2, p3⟩ := List.pairwise_append.1 h4
  refine ⟨h1, fun r hr => ?_, fun r hr b hb => ?_, List.pairwise_cons.2 ⟨fun s hs b hb hsb => ?_, p2⟩⟩
  · rcases List.mem_cons.1 hr with rfl | hr
    · exact ⟨fun q hq => h2 q (List.mem_append_left _ hq), p1⟩
    · exact h2 r (List.mem_append_right _ hr)
  · rcases List.mem_cons.1 hr with rfl | hr
    · obtain ⟨q, hq, hqb⟩ := hb
      exact h3 q (List.mem_append_left _ hq) b hqb
    · exact h3 r (List.mem_append_right _ hr) b hb
  · obtain ⟨q, hq, hqb⟩ := hb
    exact p3 q hq s hs b hqb hsb
theorem Own.unpack (h : Own w0 (Go.Proofs.Ytmofcbpabdbjlaa.pack F :: L) w) : Own w0 (F ++ L) w := by
  obtain ⟨h1, h2, h3, h4⟩ := h
  obtain ⟨p1, p2⟩ := List.pairwise_cons.1 h4
  have hp := h2 _ (List.mem_cons_self)
  refine ⟨h1, fun r hr => ?_, fun r hr b hb => ?_, List.pairwise_append.2 ⟨hp.2, p2, fun q hq s hs b hqb hsb => p1 s hs b ⟨q, hq, hqb⟩ hsb⟩⟩
  · rcases List.mem_append.1 hr with hr | hr
    · exact hp.1 r hr
    · exact h2 r (List.mem_cons_of_mem _ hr)
  · rcases List.mem_append.1 hr with hr | hr
    · exact h3 _ (List.mem_cons_self) b ⟨r, hr, hb⟩
    · exact h3 r (List.mem_cons_of_mem _ hr) b hb
/-- two packs become one -/
theorem Own.merge (h : Own w0 (Go.Proofs.Ytmofcbpabdbjlaa.pack F :: Go.Proofs.Ytmofcbpabdbjlaa.pack G :: L) w) : Own w0 (Go.Proofs.Ytmofcbpabdbjlaa.pack (F ++ G) :: L) w := by
  have h1 := h.unpack
  have h2 := (h1.perm (L' := Go.Proofs.Ytmofcbpabdbjlaa.pack G :: (F ++ L)) List.perm_middle).unpack
  refine Own.pack (h2.perm ?_)
  rw [← List.append_assoc]
  exact List.Perm.append_right L List.perm_append_comm
/-- a thing enters a pack -/
theorem Own.into (h : Own w0 (r :: Go.Proofs.Ytmofcbpabdbjlaa.pack F :: L) w) : Own w0 (Go.Proofs.Ytmofcbpabdbjlaa.pack (r :: F) :: L) w := Own.merge (F := [r]) (Own.pack (F := [r]) h)

/-- things enter a pack -/
theorem Own.packs' (A : List Res) {R : List Res} (h : Own w0 (A ++ Go.Proofs.Ytmofcbpabdbjlaa.pack F :: R) w) : Own w0 (Go.Proofs.Ytmofcbpabdbjlaa.pack (A ++ F) :: R) w := by
  have h1 := Own.unpack (h.perm (L' := Go.Proofs.Ytmofcbpabdbjlaa.pack F :: (A ++ R)) List.perm_middle)
  refine Own.pack (h1.perm ?_)
  rw [← List.append_assoc]
  exact List.Perm.append_right _ List.perm_append_comm
theorem Own.packs (A : List Res) (h : Own w0 (A ++ [Go.Proofs.Ytmofcbpabdbjlaa.pack F]) w) : Own w0 [Go.Proofs.Ytmofcbpabdbjlaa.pack (A ++ F)] w := Own.packs' A h

theorem Own.repack {F' : List Res} (h : Own w0 (Go.Proofs.Ytmofcbpabdbjlaa.pack F :: L) w) (hp : F.Perm F') : Own w0 (Go.Proofs.Ytmofcbpabdbjlaa.pack F' :: L) w := Own.pack (h.unpack.perm (hp.append_right L))
/-- a thing comes to the front -/
theorem Own.front (h : Own w0 L w) (k : Nat) {r : Res} (hk : L[k]? = some r) : Own w0 (r :: L.eraseIdx k) w := by
  obtain ⟨hlt, hr⟩ := List.getElem?_eq_some_iff.1 hk
  have := (perm_erase L k hlt).symm
  rw [hr] at this
  exact h.perm this
/-- a pack is opened in part, and closed again -/
theorem Own.crack (A : List Res) {E R : List Res} (h : Own w0 (Go.Proofs.Ytmofcbpabdbjlaa.pack (A ++ F ++ E) :: R) w) : Own w0 (A ++ Go.Proofs.Ytmofcbpabdbjlaa.pack F :: Go.Proofs.Ytmofcbpabdbjlaa.pack E :: R) w := by
  have h1 := h.unpack
  have h2 := Own.pack (h1.perm (L' := E ++ (A ++ F ++ R)) (by rw [List.append_assoc (A ++ F)]; exact List.perm_append_comm_assoc _ _ _))
  have h3 := Own.pack (F := F) (h2.perm (L' := F ++ (Go.Proofs.Ytmofcbpabdbjlaa.pack E :: (A ++ R))) (by
    refine List.Perm.trans ?_ List.perm_middle.symm
    refine List.Perm.cons _ ?_
    rw [← List.append_assoc]
    exact List.Perm.append_right _ List.perm_append_comm))
  refine h3.perm ?_
  refine List.Perm.trans ?_ List.perm_middle.symm
  exact List.Perm.cons _ List.perm_middle.symm
theorem Own.mend (A : List Res) {E R : List Res} (h : Own w0 (A ++ Go.Proofs.Ytmofcbpabdbjlaa.pack F :: Go.Proofs.Ytmofcbpabdbjlaa.pack E :: R) w) : Own w0 (Go.Proofs.Ytmofcbpabdbjlaa.pack (A ++ F ++ E) :: R) w := by
  have h1 := h.perm (L' := Go.Proofs.Ytmofcbpabdbjlaa.pack F :: Go.Proofs.Ytmofcbpabdbjlaa.pack E :: (A ++ R)) (List.perm_middle.trans (List.Perm.cons _ List.perm_middle))
  have h2 := Own.unpack (h1.merge)
  exact Own.pack (h2.perm (by
    rw [← List.append_assoc]
    refine List.Perm.append_right _ ?_
    rw [List.append_assoc A]
    exact List.perm_append_comm))

/-- things are chosen by their places -/
theorem Own.pick (h : Own w0 L w) (idx : List Nat) (hn : idx.Nodup) : Own w0 (idx.filterMap fun i => L[i]?) w := by
  have hm : ∀ r ∈ idx.filterMap (fun i => L[i]?), r ∈ L := fun r hr => by
    obtain ⟨i, _, hi⟩ := List.mem_filterMap.1 hr
    exact List.mem_of_getElem? hi
  refine ⟨h.below, fun r hr => h.holds r (hm r hr), fun r hr => h.lo r (hm r hr), ?_⟩
  rw [List.pairwise_filterMap]
  refine List.Pairwise.imp (fun {i j} hij r hr s hs b hb hsb => ?_) hn
  obtain ⟨hi, ei⟩ := List.getElem?_eq_some_iff.1 hr
  obtain ⟨hj, ej⟩ := List.getElem?_eq_some_iff.1 hs
  have hp := List.pairwise_iff_getElem.1 h.sep
  rcases Nat.lt_or_gt_of_ne hij with hlt | hlt
  · have := hp i j hi hj hlt b
    rw [ei, ej] at this
    exact this hb hsb
  · have := hp j i hj hi hlt b
    rw [ei, ej] at this
    exact this hsb hb

theorem VO.one {t : VT} {vs : List Value} {L : List Res} (h : VO t vs L) : vs.all (·.oneCell') = true := by cases h; rfl
theorem RdV.one {w : World} {t : VT} {vs : List Value} (h : RdV w t vs) : vs.all (·.oneCell') = true := by cases h; rfl
theorem itc_one (l : List It) : (itc l).all (·.oneCell') = true := by
  induction l with
  | nil => rfl
  | cons x l ih =>
    show ([_, _, _] ++ itc l).all _ = true
    rw [List.all_append, ih]
    rfl
theorem stc_one (l : List ByteArray) : (stc l).all (·.oneCell') = true := by simp [stc, Value.oneCell']

theorem VL.flat {ps : List VT} {pvs : List (List Value)} {Ls : List (List Res)} (h : VL ps pvs Ls) : pvs.flatten.length = ps.length * 8 := by
  have := flat_len (f := id) (sz := 8) pvs (fun x hx => by
    obtain ⟨j, hj, rfl⟩ := List.mem_iff_getElem.1 hx
    exact (h.at_ j (by rw [← h.len]; exact hj) hj (by rw [h.len', ← h.len]; exact hj)).len)
  rw [List.flatMap_id, h.len] at this
  exact this
theorem VL.eight {ps : List VT} {pvs : List (List Value)} {Ls : List (List Res)} (h : VL ps pvs Ls) : ∀ x ∈ pvs, (id x : List Value).length = 8 := fun x hx => by
  obtain ⟨j, hj, rfl⟩ := List.mem_iff_getElem.1 hx
  exact (h.at_ j (by rw [← h.len]; exact hj) hj (by rw [h.len', ← h.len]; exact hj)).len
theorem VL.set {ps : List VT} {pvs : List (List Value)} {Ls : List (List Res)} (h : VL ps pvs Ls) (k : Nat) {t : VT} {vs : List Value} {L : List Res} (ht : VO t vs L) : VL (ps.set k t) (pvs.set k vs) (Ls.set k L) := by
  refine ⟨by simp [h.len], by simp [h.len'], fun i a b c => ?_⟩
  simp only [List.getElem_set]
  by_cases e : k = i
  · simp only [e, if_true]; exact ht
  · simp only [e, if_false]; exact h.at_ i (by simpa using a) _ _
theorem flat_snoc {α : Type} (a : List (List α)) (b : List α) : (a ++ [b]).flatten = a.flatten ++ b := by simp
theorem flat_erase {α : Type} (l : List (List α)) (k : Nat) (hk : k < l.length) : (l[k] ++ (l.eraseIdx k).flatten).Perm l.flatten := by
  have := (perm_erase l k hk).flatten
  rwa [List.flatten_cons] at this
theorem flat_put {α : Type} (l : List (List α)) (k : Nat) (hk : k < l.length) (y : List α) : (y ++ (l.eraseIdx k).flatten).Perm (l.set k y).flatten := by
  have := flat_erase (l.set k y) k (by simpa using hk)
  rwa [List.getElem_set_self, List.eraseIdx_set_eq] at this

/-- what is owned, packed, is read -/
theorem Own.rdp (h : Own w0 L w) (k : Nat) {F : List Res} (hk : L[k]? = some (Go.Proofs.Ytmofcbpabdbjlaa.pack F)) {t : VT} {vs : List Value} (ht : VO t vs F) : RdV w t vs :=
  ht.rd fun r hr => (h.get k hk).1 r hr
theorem Own.rdl (h : Own w0 L w) (k j : Nat) {F : List (List Res)} {ps : List VT} {pvs : List (List Value)} {A : Option Addr} {c : Nat} (hk : L[k]? = some (row 29 8 (.slice A ps.length c) ps.length pvs.flatten)) (hj : L[j]? = some (Go.Proofs.Ytmofcbpabdbjlaa.pack F.flatten)) (hv : VL ps pvs F) : RdL w A ps pvs :=
  hv.rd (h.get k hk) fun r hr => (h.get j hj).1 r hr
end
end Go.Proofs.Ytmofcbpabdbjlaa
