/- vers: Clean (a range over the tables). -/
import Derived.Test.YtjmgookpmngmaacVe4
import Derived.Test.YtjmgookpmngmaacMapIt
namespace Go.Proofs.Ytjmgookpmngmaac
open Go Go.RowKit Go.Maps

def cleanD (c : Int) (d : ByteArray → Bool) (rs : List (ByteArray × Tab)) : List (ByteArray × Tab) := rs.map fun r => (r.1, if d r.1 then { r.2 with dirty := mdel r.2.dirty c } else r.2)
theorem cleanD_blocks (c : Int) (d : ByteArray → Bool) (rs : List (ByteArray × Tab)) (pv bm : Nat) : blocks pv bm (cleanD c d rs) = blocks pv bm rs := by
  unfold blocks
  have : tabBlocks (cleanD c d rs) = tabBlocks rs := by
    induction rs with
    | nil => rfl
    | cons r rs ih =>
      have ih' : tabBlocks (rs.map fun r => (r.1, if d r.1 then { r.2 with dirty := mdel r.2.dirty c } else r.2)) = tabBlocks rs := ih
      simp only [cleanD, List.map_cons, tabBlocks, ih']
      cases d r.1 <;> simp
  rw [this]
theorem cleanD_mapN (c : Int) (d : ByteArray → Bool) (rs : List (ByteArray × Tab)) : mapN (cleanD c d rs) = mapN rs := by
  simp only [mapN, cleanD, List.map_map]
  apply List.map_congr_left
  intro r _
  simp only [Function.comp, ptrV]
  cases d r.1 <;> simp
theorem cleanD_get (c : Int) (d : ByteArray → Bool) (rs : List (ByteArray × Tab)) (s : ByteArray) : mget (cleanD c d rs) s = (mget rs s).map fun t => if d s then { t with dirty := mdel t.dirty c } else t := by
  induction rs with
  | nil => rfl
  | cons r rs ih =>
    obtain ⟨y, u⟩ := r
    have ih' : mget (rs.map fun r => (r.1, if d r.1 then { r.2 with dirty := mdel r.2.dirty c } else r.2)) s = (mget rs s).map fun t => if d s then { t with dirty := mdel t.dirty c } else t := ih
    simp only [cleanD, List.map_cons, mget]
    by_cases e : y = s
    · subst e; simp
    · simp only [if_neg e]; exact ih'
theorem cleanD_put {c : Int} {d : ByteArray → Bool} {x : ByteArray} {t : Tab} : ∀ {rs : List (ByteArray × Tab)}, (rs.map (·.1)).Nodup → mget rs x = some t → mput (cleanD c d rs) x { t with dirty := mdel t.dirty c } = cleanD c (fun s => d s || decide (s = x)) rs := by
  intro rs
  induction rs with
  | nil => intro _ h; simp [mget] at h
  | cons r rs ih =>
    obtain ⟨y, u⟩ := r
    intro hn h
    simp only [List.map_cons, List.nodup_cons] at hn
    unfold mget at h
    simp only [cleanD, List.map_cons, mput]
    by_cases e : y = x
    · rw [if_pos e] at h ⊢
      cases h
      subst e
      simp only [decide_true, Bool.or_true, if_true, List.cons.injEq, true_and]
      apply List.map_congr_left
      intro r hr
      have : r.1 ≠ y := fun e => hn.1 (List.mem_map.2 ⟨r, hr, e⟩)
      simp [this]
    · rw [if_neg e] at h ⊢
      have := ih hn.2 h
      unfold cleanD at this
      rw [this]
      simp [e]
theorem cleanD_none (c : Int) (rs : List (ByteArray × Tab)) : cleanD c (fun _ => false) rs = rs := by
  unfold cleanD
  conv => rhs; rw [← List.map_id rs]
  apply List.map_congr_left
  intro r _; simp

structure CleanK (w wr : World) (pv bm r : Nat) (ep c : Int) (rs0 : List (ByteArray × Tab)) (d : ByteArray → Bool) (todo : List (ByteArray × Value)) : Prop where
  ver : VerC wr pv bm ep (cleanD c d rs0)
  it : MapIt wr bm r strV goodS (mapN rs0) todo
  sub : ∀ p ∈ todo, p ∈ mapN rs0
  left : ∀ q ∈ rs0, d q.1 = false → (q.1, ptrV q.2) ∈ todo
  fresh : ∀ p ∈ todo, d p.1 = false
  rn : r ∉ blocks pv bm rs0
  rw' : w.heap.size ≤ r
  touch : Touch (blocks pv bm rs0) w wr

theorem CleanK.step {w wr w2 w3 : World} {pv bm r : Nat} {ep c : Int} {rs0 : List (ByteArray × Tab)} {d : ByteArray → Bool} {todo : List (ByteArray × Value)} (h : CleanK w wr pv bm r ep c rs0 d todo) (hn : (rs0.map (·.1)).Nodup) {x : ByteArray} {t : Tab} (hx : (x, ptrV t) ∈ todo) (hm : mget rs0 x = some t)
    (hIt : MapIt w2 bm r strV goodS (mapN rs0) (mdel todo x)) (t2 : Touch [r] wr w2) (hM : MapT w3 t.bd intV goodI (mdel (mapD t.dirty) c)) (t3 : Touch [t.bd] w2 w3) : CleanK w w3 pv bm r ep c rs0 (fun s => d s || decide (s = x)) (mdel todo x) := by
  have hd : d x = false := h.fresh _ hx
  have hg : mget (cleanD c d rs0) x = some t := by rw [cleanD_get, hm]; simp [hd]
  have hv2 : VerC w2 pv bm ep (cleanD c d rs0) := h.ver.kept t2 (fun i hi e => h.rn (by rw [cleanD_blocks] at hi; simp at e; exact e ▸ hi))
  have htab := hv2.tabs _ (mget_mem hg)
  have hap := hv2.apart hg
  have hbd : t.bd ∈ blocks pv bm rs0 := by simp only [blocks, List.mem_cons, mem_tabBlocks]; exact .inr (.inr ⟨_, mget_mem hm, .inr rfl⟩)
  have hT : TabC w3 { t with dirty := mdel t.dirty c } := ⟨(t3.block _ htab.lt.1 (by simpa using hap.2.2.2.2.2)).trans htab.cells, hM.of_eq (mdel_map intV t.dirty c)⟩
  have hrb : r ≠ t.bd := fun e => h.rn (e ▸ hbd)
  refine ⟨?_, hIt.kept t3 (by simpa using hap.2.2.2.2.1.symm) (by simpa using hrb), fun p hp => h.sub p (List.mem_filter.1 hp).1, fun q hq hqd => ?_, fun p hp => ?_, h.rn, h.rw', ?_⟩
  · rw [← cleanD_put hn hm]
    exact hv2.turn hg rfl rfl (t3.mono (by simp)) hT
  · simp only [Bool.or_eq_false_iff, decide_eq_false_iff_not] at hqd
    exact List.mem_filter.2 ⟨h.left q hq hqd.1, by simpa using hqd.2⟩
  · obtain ⟨h1, h2⟩ := List.mem_filter.1 hp
    simp only [ne_eq, decide_eq_true_eq] at h2
    simp [h.fresh p h1, h2]
  · exact (h.touch.trans t2 (fun i hi => by simp at hi; exact .inr (hi ▸ h.rw'))).trans t3 (fun i hi => by simp at hi; exact .inl (hi ▸ hbd))

theorem dirtyOf_clean (c : Int) (rs : List (ByteArray × Tab)) (d : ByteArray → Bool) (hd : ∀ q ∈ rs, d q.1 = true) (s : ByteArray) (c' : Int) : dirtyOf (cleanD c d rs) s c' = (dirtyOf rs s c' && !decide (c = c')) := by
  unfold dirtyOf
  rw [cleanD_get]
  cases hm : mget rs s with
  | none => rfl
  | some t =>
    have := hd _ (mget_mem hm)
    simp only at this
    simp only [Option.map_some, this, if_true, Option.bind_some, mget_mdel]
    by_cases e : c = c' <;> simp [e]
theorem numOf_clean (c : Int) (rs : List (ByteArray × Tab)) (d : ByteArray → Bool) (s : ByteArray) : numOf (cleanD c d rs) s = numOf rs s := by
  unfold numOf
  rw [cleanD_get]
  cases mget rs s with
  | none => rfl
  | some t => cases hd : d s <;> simp
theorem Small.clean {rs : List (ByteArray × Tab)} {n : Nat} (h : Small rs n) (c : Int) (d : ByteArray → Bool) : Small (cleanD c d rs) n := by
  refine ⟨by simpa [cleanD] using h.len, fun r hr => ?_, fun r hr => ?_⟩
  · obtain ⟨q, hq, rfl⟩ := List.mem_map.1 hr
    have := h.num q hq
    simp only
    cases d q.1 <;> simpa using this
  · obtain ⟨q, hq, rfl⟩ := List.mem_map.1 hr
    have := h.dirty q hq
    simp only
    cases d q.1
    · simpa using this
    · simp only [if_true]
      exact Nat.le_trans (List.length_filter_le _ _) this

set_option maxHeartbeats 1600000 in
theorem Clean_any {w : World} {pv bm : Nat} {ep : Int} {rs : List (ByteArray × Tab)} {n : Nat} (h : VerC w pv bm ep rs) (sm : Small rs n) (c : Int) (hc : goodI c) :
    Calls Try.prog 16 #[.pointer (some ⟨pv, 0, none⟩), .int .i64 c] w fun e w' => e = .returned (.tuple #[]) ∧ ∃ rs', TMoved w w' pv bm ep rs rs' n ∧ (∀ s, numOf rs' s = numOf rs s) ∧ (∀ s c', dirtyOf rs' s c' = (dirtyOf rs s c' && !decide (c = c'))) := by
  have c1 := h.c1
  have H := Lib.hid (And.intro h sm)
  have hM := h.map
  clear sm
  go_enter Try.func16, Try.ntmps16
  go_wp2_with fail
  refine (there_any h).mono ?_
  rintro e w1 ⟨rfl, rfl⟩
  go_wp2_with (at_range; refine wpList_mt_range _ rfl _ _ 64 rfl Try.underlying57 hM rfl ?_; intro w2 hIt t2)
  go_frame
  have K0 : CleanK w w2 pv bm w.heap.size ep c rs (fun _ => false) (mapN rs) :=
    ⟨by rw [cleanD_none]; exact h.kept0 t2, hIt, fun p hp => hp, fun q hq _ => List.mem_map.2 ⟨q, hq, rfl⟩, fun _ _ => rfl, fun hm => by have := h.lt _ hm; omega, Nat.le_refl _, t2.mono (by simp)⟩
  generalize w.heap.size = r at *
  have Hw : r = r := rfl
  go_loopw [5] (fun _ wr => ∃ d todo, CleanK w wr pv bm r ep c rs d todo) (fun _ wr => wr.rangeLeft bm r)
  case atStart => exact ⟨_, _, K0⟩
  clear K0 hIt t2 h hM c1
  case round =>
    obtain ⟨d, todo, K⟩ := hrel
    go_wp2_with (at_next; refine wpList_mt_next _ rfl _ rfl encS.inj K.it rfl ?_ ?_)
    · intro hdone
      subst hdone
      go_wp2_with fail
      go_end0
      have hall : ∀ q ∈ rs, d q.1 = true := fun q hq => by
        cases hd : d q.1 with
        | true => rfl
        | false => exact absurd (K.left q hq hd) (by simp)
      exact ⟨rfl, cleanD c d rs, ⟨K.ver, H.out.2.clean c d, fun i hi => .inl (by rwa [cleanD_blocks] at hi), K.touch⟩, numOf_clean c rs d, dirtyOf_clean c rs d hall⟩
    · intro x v w3 hxT hIt3 t3 hen
      obtain ⟨q, hq, hqe⟩ := List.mem_map.1 (K.sub _ hxT)
      simp only [Prod.mk.injEq] at hqe
      obtain ⟨rfl, rfl⟩ := hqe
      have hm : mget rs q.1 = some q.2 := mem_mget H.out.1.names (x := q.1) (v := q.2) hq
      have hg : mget (cleanD c d rs) q.1 = some q.2 := by rw [cleanD_get, hm]; have := K.fresh _ hxT; simp only at this; simp [this]
      have hv3 : VerC w3 pv bm ep (cleanD c d rs) := K.ver.kept t3 (fun i hi e => K.rn (by rw [cleanD_blocks] at hi; simp at e; exact e ▸ hi))
      have hT := hv3.tabs _ (mget_mem hg)
      have d1 := hT.c1
      have hTm : MapT w3 q.2.bd intV goodI (mapD q.2.dirty) := hT.map
      simp only at d1
      clear hv3 hT hg
      simp only [strV, ptrV] at hen ⊢
      have HK := Lib.hid K
      have Hm := Lib.hid hm
      have HT := Lib.hid hxT
      clear K hm hxT hq
      go_wp2_with (at_delete; go_must (refine wpList_mt_delete _ rfl _ _ 61 3 rfl encI Try.underlying61 hTm hc rfl rfl ?_); intro w5 hM5 t5)
      have K5 := HK.out.step H.out.1.names HT.out Hm.out hIt3 t3 hM5 t5
      have hless : w5.rangeLeft bm r < wr.rangeLeft bm r := by
        rw [K5.it.left, HK.out.it.left]
        exact mdel_shorter HT.out
      go_frame
      go_roundw
      case rel => exact ⟨_, _, K5⟩
      case measure => exact hless
end Go.Proofs.Ytjmgookpmngmaac
