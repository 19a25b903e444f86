/- vers: Copy. -/
import Derived.Test.YtjmgookpmngmaacVeArg
namespace Go.Proofs.Ytjmgookpmngmaac
open Go Go.RowKit Go.Maps

theorem mput_last {K α : Type} [DecidableEq K] {l : List (K × α)} {x : K} {v v' : α} (h : mget l x = none) : mput (l ++ [(x, v)]) x v' = l ++ [(x, v')] := by
  induction l with
  | nil => simp [mput]
  | cons p l ih =>
    obtain ⟨y, u⟩ := p
    unfold mget at h
    by_cases e : y = x
    · rw [if_pos e] at h; cases h
    · rw [if_neg e] at h
      simp only [List.cons_append, mput, if_neg e, ih h]

structure CpK (w wr : World) (bm : Nat) (rs : List (ByteArray × Tab)) (n : Nat) (pc bc r : Nat) (ep : Int) (d : ByteArray → Bool) (todo : List (ByteArray × Value)) (rsC : List (ByteArray × Tab)) : Prop where
  ver : VerC wr pc bc ep rsC
  it : MapIt wr bm r strV goodS (mapN rs) todo
  sub : ∀ p ∈ todo, p ∈ mapN rs
  left : ∀ q ∈ rs, d q.1 = false → (q.1, ptrV q.2) ∈ todo
  fresh : ∀ p ∈ todo, d p.1 = false
  yes : ∀ s, d s = true → numOf rsC s = numOf rs s ∧ ∀ c, dirtyOf rsC s c = dirtyOf rs s c
  no : ∀ s, d s = false → mget rsC s = none
  small : Small rsC n
  len : rsC.length + todo.length ≤ rs.length
  new : ∀ i ∈ blocks pc bc rsC, w.heap.size ≤ i ∧ i ≠ r
  rn : w.heap.size ≤ r
  touch : Touch [] w wr

structure CpI (w wx : World) (bm : Nat) (rs : List (ByteArray × Tab)) (pc bc r r2 : Nat) (ep : Int) (todo : List (ByteArray × Value)) (rsC : List (ByteArray × Tab)) (q : ByteArray × Tab) (t : Tab) (d2 : Int → Bool) (todo2 : List (Int × Value)) : Prop where
  ver : VerC wx pc bc ep (rsC ++ [(q.1, t)])
  num : t.num = q.2.num
  it : MapIt wx bm r strV goodS (mapN rs) todo
  it2 : MapIt wx q.2.bd r2 intV goodI (mapD q.2.dirty) todo2
  sub2 : ∀ p ∈ todo2, p ∈ mapD q.2.dirty
  left2 : ∀ p ∈ q.2.dirty, d2 p.1 = false → (p.1, intV p.2) ∈ todo2
  fresh2 : ∀ p ∈ todo2, d2 p.1 = false
  yes2 : ∀ c, (mget t.dirty c).isSome = (d2 c && (mget q.2.dirty c).isSome)
  len2 : t.dirty.length + todo2.length ≤ q.2.dirty.length
  new : ∀ i ∈ blocks pc bc (rsC ++ [(q.1, t)]), w.heap.size ≤ i ∧ i ≠ r ∧ i ≠ r2
  rn : w.heap.size ≤ r
  rn2 : w.heap.size ≤ r2
  rr : r ≠ r2
  touch : Touch [] w wx

theorem CpI.next {w wx w2 w3 : World} {bm : Nat} {rs : List (ByteArray × Tab)} {pc bc r r2 : Nat} {ep : Int} {todo : List (ByteArray × Value)} {rsC : List (ByteArray × Tab)} {q : ByteArray × Tab} {t : Tab} {d2 : Int → Bool} {todo2 : List (Int × Value)} {c y : Int} (h : CpI w wx bm rs pc bc r r2 ep todo rsC q t d2 todo2) (hbm : bm < w.heap.size) (hqb : q.2.bd < w.heap.size)
    (hno : mget rsC q.1 = none) (hx : (c, intV y) ∈ todo2) (hIt : MapIt w2 q.2.bd r2 intV goodI (mapD q.2.dirty) (mdel todo2 c)) (t2 : Touch [r2] wx w2) (hM : MapT w3 t.bd intV goodI (mput (mapD t.dirty) c (intV y))) (t3 : Touch [t.bd] w2 w3) :
    CpI w w3 bm rs pc bc r r2 ep todo rsC q { t with dirty := mput t.dirty c y } (fun s => d2 s || decide (s = c)) (mdel todo2 c) := by
  have hg : mget (rsC ++ [(q.1, t)]) q.1 = some t := mget_append_new hno t
  have hnr2 : ∀ i ∈ blocks pc bc (rsC ++ [(q.1, t)]), i ∉ [r2] := fun i hi => by simpa using (h.new i hi).2.2
  have hv2 := h.ver.kept t2 hnr2
  have htab := hv2.tabs _ (mget_mem hg)
  have hap := hv2.apart hg
  have hbd : t.bd ∈ blocks pc bc (rsC ++ [(q.1, t)]) := by simp only [blocks, List.mem_cons, mem_tabBlocks]; exact .inr (.inr ⟨_, mget_mem hg, .inr rfl⟩)
  have hb := h.new _ hbd
  have hT : TabC w3 { t with dirty := mput t.dirty c y } := ⟨(t3.block _ htab.lt.1 (by simpa using hap.2.2.2.2.2)).trans htab.cells, hM.of_eq (mput_map intV t.dirty c y)⟩
  have hv3 := hv2.turn hg (t' := { t with dirty := mput t.dirty c y }) rfl rfl (t3.mono (by simp)) hT
  rw [mput_last hno] at hv3
  have hrn := h.rn
  have hrn2 := h.rn2
  have hcq : (c, y) ∈ q.2.dirty := by
    obtain ⟨p, hp, he⟩ := List.mem_map.1 (h.sub2 _ hx)
    simp only [Prod.mk.injEq, intV, Value.int.injEq, true_and] at he
    obtain ⟨e1, e2⟩ := he
    rw [← e1, ← e2]; exact hp
  have hsome : (mget q.2.dirty c).isSome = true := by
    cases hm : mget q.2.dirty c with
    | none => exact absurd rfl (mget_none.1 hm _ hcq)
    | some _ => rfl
  refine ⟨hv3, h.num, (h.it.kept t2 (by simp; omega) (by simpa using h.rr)).kept t3 (by simp; omega) (by simpa using hb.2.1.symm), hIt.kept t3 (by simp; omega) (by simpa using hb.2.2.symm), fun p hp => h.sub2 p (List.mem_filter.1 hp).1, fun p hp hd => ?_, fun p hp => ?_, fun c' => ?_, ?_, fun i hi => ?_, h.rn, h.rn2, h.rr, (h.touch.trans t2 (by simpa using hrn2)).trans t3 (by simpa using hb.1)⟩
  · simp only [Bool.or_eq_false_iff, decide_eq_false_iff_not] at hd
    exact List.mem_filter.2 ⟨h.left2 p hp hd.1, by simpa using hd.2⟩
  · obtain ⟨h1, h2⟩ := List.mem_filter.1 hp
    simp only [ne_eq, decide_eq_true_eq] at h2
    simp [h.fresh2 p h1, h2]
  · simp only [mget_mput]
    by_cases e : c = c'
    · subst e; simp [hsome]
    · rw [if_neg e, h.yes2]
      simp [Ne.symm e]
  · have := mput_length t.dirty c y
    have := mdel_shorter hx
    have := h.len2
    simp only; omega
  · refine h.new i ?_
    unfold blocks at hi ⊢
    rw [tabBlocks_append] at hi ⊢
    exact hi

theorem CpI.done {w wo wx : World} {bm : Nat} {rs : List (ByteArray × Tab)} {n : Nat} {pc bc r r2 : Nat} {ep : Int} {todo : List (ByteArray × Value)} {rsC : List (ByteArray × Tab)} {q : ByteArray × Tab} {t : Tab} {d : ByteArray → Bool} {d2 : Int → Bool} (k : CpK w wo bm rs n pc bc r ep d todo rsC) (sm : Small rs n) (hn : (rs.map (·.1)).Nodup) (hq : q ∈ rs) (hx : (q.1, ptrV q.2) ∈ todo)
    (h : CpI w wx bm rs pc bc r r2 ep (mdel todo q.1) rsC q t d2 []) : CpK w wx bm rs n pc bc r ep (fun s => d s || decide (s = q.1)) (mdel todo q.1) (rsC ++ [(q.1, t)]) := by
  have hd : d q.1 = false := k.fresh _ hx
  have hno := k.no _ hd
  have hm : mget rs q.1 = some q.2 := mem_mget hn (x := q.1) (v := q.2) hq
  have hall : ∀ c, (mget q.2.dirty c).isSome = true → d2 c = true := fun c hc => by
    cases hd2 : d2 c with
    | true => rfl
    | false =>
      cases hm2 : mget q.2.dirty c with
      | none => rw [hm2] at hc; cases hc
      | some y => exact absurd (h.left2 (c, y) (mget_mem hm2) hd2) (by simp)
  refine ⟨h.ver, h.it, fun p hp => k.sub p (List.mem_filter.1 hp).1, fun q' hq' hd' => ?_, fun p hp => ?_, fun s hs => ?_, fun s hs => ?_, ⟨?_, fun p hp => ?_, fun p hp => ?_⟩, ?_, fun i hi => ⟨(h.new i hi).1, (h.new i hi).2.1⟩, h.rn, h.touch⟩
  · simp only [Bool.or_eq_false_iff, decide_eq_false_iff_not] at hd'
    exact List.mem_filter.2 ⟨k.left q' hq' hd'.1, by simpa using hd'.2⟩
  · obtain ⟨h1, h2⟩ := List.mem_filter.1 hp
    simp only [ne_eq, decide_eq_true_eq] at h2
    simp [k.fresh p h1, h2]
  · by_cases e : q.1 = s
    · subst e
      refine ⟨by simp [numOf, mget_append hno, hm, h.num], fun c => ?_⟩
      simp only [dirtyOf, mget_append hno, if_true, Option.bind_some, hm, h.yes2]
      cases hc : (mget q.2.dirty c).isSome with
      | true => simp [hall c hc]
      | false => simp
    · simp only [Bool.or_eq_true, decide_eq_true_eq] at hs
      have hs' := hs.resolve_right (Ne.symm e)
      have := k.yes s hs'
      simp only [numOf, dirtyOf, mget_append hno, if_neg e] at this ⊢
      exact this
  · simp only [Bool.or_eq_false_iff, decide_eq_false_iff_not] at hs
    rw [mget_append hno, if_neg (Ne.symm hs.2)]
    exact k.no s hs.1
  · have := k.len
    have := mdel_shorter hx
    have := sm.len
    simp; omega
  · rcases List.mem_append.1 hp with hp | hp
    · exact k.small.num p hp
    · simp only [List.mem_singleton] at hp; subst hp; simp only [h.num]; exact sm.num _ hq
  · rcases List.mem_append.1 hp with hp | hp
    · exact k.small.dirty p hp
    · simp only [List.mem_singleton] at hp; subst hp; have := h.len2; have := sm.dirty _ hq; simp at this ⊢; omega
  · have := k.len
    have := mdel_shorter hx
    simp; omega

theorem CpK.fin {w wr : World} {bm : Nat} {rs : List (ByteArray × Tab)} {n pc bc r : Nat} {ep : Int} {d : ByteArray → Bool} {rsC : List (ByteArray × Tab)} (k : CpK w wr bm rs n pc bc r ep d [] rsC) : SameT rs rsC := by
  have hall : ∀ s, d s = false → mget rs s = none := fun s hs => mget_none.2 fun p hp e => by
    have := k.left p hp (by rw [e]; exact hs)
    simp at this
  refine ⟨fun s => ?_, fun s c => ?_⟩
  · cases hd : d s with
    | true => exact (k.yes s hd).1
    | false => simp [numOf, k.no s hd, hall s hd]
  · cases hd : d s with
    | true => exact (k.yes s hd).2 c
    | false => simp [dirtyOf, k.no s hd, hall s hd]
end Go.Proofs.Ytjmgookpmngmaac
