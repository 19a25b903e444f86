/- Names by number: no two texts have one. -/
import Derived.Test.YtjmgookpmngmaadPrArg
namespace Go.Proofs.Ytjmgookpmngmaad
open Go Go.RowKit Go.Maps

structure NmOK (nm : List (ByteArray × ByteArray)) : Prop where
  val : ∀ (i : Nat) p, nm[i]? = some p → p.2 = nameB (i + 1)
  keys : (nm.map (·.1)).Nodup
theorem NmOK.nil : NmOK [] := ⟨by simp, by simp⟩
theorem NmOK.put {M : BM} (h : NmOK M.nm) (q : ByteArray) : NmOK (mput M.nm q (M.name q)) := by
  cases hm : mget M.nm q with
  | some x =>
    have e : M.name q = x := by unfold BM.name; rw [hm]
    rw [e, mput_self hm]; exact h
  | none =>
    have e : M.name q = nameB (M.nm.length + 1) := by unfold BM.name; rw [hm]
    rw [mput_new (mget_none.1 hm), e]
    refine ⟨fun i p hp => ?_, ?_⟩
    · by_cases hi : i < M.nm.length
      · rw [List.getElem?_append_left hi] at hp; exact h.val i p hp
      · rw [List.getElem?_append_right (by omega)] at hp
        have : i - M.nm.length = 0 := by
          have := (List.getElem?_eq_some_iff.1 hp).1
          simp at this; omega
        rw [this] at hp
        simp at hp
        subst hp
        have : i = M.nm.length := by omega
        rw [this]
    · rw [List.map_append, List.nodup_append]
      refine ⟨h.keys, by simp, fun a ha b hb hab => ?_⟩
      have hb' : b = q := by simpa using hb
      obtain ⟨p, hp, hpa⟩ := List.mem_map.1 ha
      exact mget_none.1 hm p hp (by rw [hpa, hab, hb'])
theorem NmOK.inj {nm : List (ByteArray × ByteArray)} (h : NmOK nm) {a b x : ByteArray} (ha : mget nm a = some x) (hb : mget nm b = some x) : a = b := by
  obtain ⟨i, hi⟩ := List.mem_iff_getElem?.1 (mget_mem ha)
  obtain ⟨j, hj⟩ := List.mem_iff_getElem?.1 (mget_mem hb)
  have h1 := h.val i _ hi
  have h2 := h.val j _ hj
  have e : i + 1 = j + 1 := nameB_inj (h1.symm.trans h2)
  have : i = j := by omega
  subst this
  rw [hi] at hj
  cases hj; rfl
theorem nameB_ne (n : Nat) : nameB n ≠ ⟨#[]⟩ := fun h => by
  have := congrArg ByteArray.size h
  unfold nameB at this
  rw [ByteArray.size_append] at this
  have e : (ByteArray.mk #[115]).size = 1 := rfl
  have e2 : (ByteArray.mk #[]).size = 0 := rfl
  omega
theorem NmOK.ne {M : BM} (h : NmOK M.nm) (q : ByteArray) : M.name q ≠ ⟨#[]⟩ := by
  unfold BM.name
  cases hm : mget M.nm q with
  | none => exact nameB_ne _
  | some x =>
    obtain ⟨i, hi⟩ := List.mem_iff_getElem?.1 (mget_mem hm)
    have := h.val i _ hi
    simp only at this ⊢
    rw [this]; exact nameB_ne _
/-- A text has its name. -/
def Named (M : BM) (t : ByteArray) : Prop := mget M.nm t ≠ none
theorem Named.get {M : BM} {t : ByteArray} (h : Named M t) : mget M.nm t = some (M.name t) := by
  unfold Named at h
  unfold BM.name
  cases hm : mget M.nm t with
  | none => exact absurd hm h
  | some x => rfl
theorem named_put {M M' : BM} {q : ByteArray} (e : M'.nm = mput M.nm q (M.name q)) : Named M' q ∧ M'.name q = M.name q ∧ ∀ t, Named M t → Named M' t ∧ M'.name t = M.name t := by
  have hq : mget M'.nm q = some (M.name q) := by rw [e, mget_mput, if_pos rfl]
  refine ⟨by unfold Named; rw [hq]; simp, by unfold BM.name at hq ⊢; rw [hq], fun t ht => ?_⟩
  have h1 := ht.get
  by_cases h : q = t
  · subst h
    exact ⟨by unfold Named; rw [hq]; simp, by unfold BM.name at hq ⊢; rw [hq]⟩
  · have h2 : mget M'.nm t = some (M.name t) := by rw [e, mget_mput, if_neg h, h1]
    exact ⟨by unfold Named; rw [h2]; simp, by unfold BM.name at h2 ⊢; rw [h2]⟩
/-- The first i texts have been named, and connection 1000 has their names. -/
structure NI (M : BM) (l : List ByteArray) (i : Nat) : Prop where
  ok : NmOK M.nm
  has : ∀ t ∈ l.take i, Named M t ∧ M.name t ∈ M.order 1000
theorem NI.congr {M : BM} {l : List ByteArray} {i j k : Nat} (h : NI M l i) {a b : ByteArray} (ha : l[j]? = some a) (hb : l[k]? = some b) (hj : j < i) (hk : k < i) : M.name a = M.name b ↔ a = b := by
  have ma : a ∈ l.take i := List.mem_iff_getElem?.2 ⟨j, by rw [List.getElem?_take, if_pos hj]; exact ha⟩
  have mb : b ∈ l.take i := List.mem_iff_getElem?.2 ⟨k, by rw [List.getElem?_take, if_pos hk]; exact hb⟩
  refine ⟨fun e => ?_, fun e => by rw [e]⟩
  have h1 := (h.has a ma).1.get
  have h2 := (h.has b mb).1.get
  rw [← e] at h2
  exact h.ok.inj h1 h2
theorem NI.step {M M' : BM} {l : List ByteArray} {i : Nat} {q : ByteArray} (h : NI M l i) (hq : l[i]? = some q) (e : M'.nm = mput M.nm q (M.name q)) (o : ∀ x ∈ M.order 1000, x ∈ M'.order 1000) (o2 : M.name q ∈ M'.order 1000) :
    NI M' l (i + 1) ∧ (l.take (i + 1)).map M'.name = (l.take i).map M.name ++ [M.name q] := by
  obtain ⟨n1, n2, n3⟩ := named_put e
  have ht : l.take (i + 1) = l.take i ++ [q] := by
    rw [List.take_succ_eq_append_getElem (List.getElem?_eq_some_iff.1 hq).1, (List.getElem?_eq_some_iff.1 hq).2]
  refine ⟨⟨by rw [e]; exact h.ok.put q, fun t hm => ?_⟩, ?_⟩
  · rw [ht] at hm
    rcases List.mem_append.1 hm with hm | hm
    · obtain ⟨q1, q2⟩ := n3 t (h.has t hm).1
      exact ⟨q1, by rw [q2]; exact o _ (h.has t hm).2⟩
    · simp only [List.mem_singleton] at hm
      subst hm
      exact ⟨n1, by rw [n2]; exact o2⟩
  · rw [ht, List.map_append]
    congr 1
    · exact List.map_congr_left fun t hm => (n3 t (h.has t hm).1).2
    · simp [n2]
end Go.Proofs.Ytjmgookpmngmaad
