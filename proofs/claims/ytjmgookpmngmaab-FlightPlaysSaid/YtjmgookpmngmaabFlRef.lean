/- The document's board (ref14): what it stands for, and its small functions. -/
import Derived.Test.YtjmgookpmngmaabFlOpen
namespace Go.Proofs.Ytjmgookpmngmaab
open Go Go.RowKit Go.Maps

/-- An element's cells. -/
def flC (r : Key × (Value × List Int)) : List Value := [.string r.1.db, .string r.1.role, .int .i64 r.1.format, .string r.1.norm, r.2.1]
/-- The block pr is a board of the document's that stands for L; F: its blocks. -/
def RBR (w : World) (pr : Nat) (F : List Nat) (L : List (Key × List Int)) : Prop :=
  ∃ v rs, w.heap[pr]? = some (.cells #[v] 49 (0, 0)) ∧ w.ownsRow 0 69 5 v rs.length (rs.flatMap flC) ∧
    (∀ r ∈ rs, w.ownsRow 0 3 1 r.2.1 r.2.2.length (intsV r.2.2)) ∧ L = rs.map (fun r => (r.1, r.2.2)) ∧ F = pr :: (v.ownBlock.toList ++ rowBlocks rs) ∧ F.Nodup

theorem RBR.lt {w : World} {pr : Nat} {F : List Nat} {L : List (Key × List Int)} (h : RBR w pr F L) : ∀ i ∈ F, i < w.heap.size := by
  obtain ⟨v, rs, h1, h2, h3, h4, rfl, _⟩ := h
  intro i hi
  simp only [List.mem_cons, List.mem_append, Option.mem_toList, mem_rowBlocks] at hi
  rcases hi with rfl | hi | ⟨r, hr, hb⟩
  · exact heap_lt h1
  · exact (h2.lt i hi).2
  · exact ((h3 r hr).lt i hb).2
theorem RBR.kept {w w' : World} {pr : Nat} {F S : List Nat} {L : List (Key × List Int)} (h : RBR w pr F L) (ht : Touch S w w') (hs : ∀ i ∈ F, i ∉ S) : RBR w' pr F L := by
  have hlt := h.lt
  obtain ⟨v, rs, h1, h2, h3, h4, rfl, hn⟩ := h
  refine ⟨v, rs, (ht.block pr (hlt pr (by simp)) (hs pr (by simp))).trans h1, own_touch h2 ht (fun i hi => hs i (by simp [hi])), fun r hr => own_touch (h3 r hr) ht (fun i hi => hs i ?_), h4, rfl, hn⟩
  simp only [List.mem_cons, List.mem_append, mem_rowBlocks]
  exact .inr (.inr ⟨r, hr, hi⟩)

theorem flat_get {rs : List (Key × (Value × List Int))} {j : Nat} {r : Key × (Value × List Int)} (h : rs[j]? = some r) {q : Nat} (hq : q < 5) : (rs.flatMap flC)[j * 5 + q]? = (flC r)[q]? := by
  induction rs generalizing j with
  | nil => simp at h
  | cons r0 rs ih =>
    have hl : (flC r0).length = 5 := rfl
    cases j with
    | zero =>
      simp at h; subst h
      rw [List.flatMap_cons, List.getElem?_append_left (by rw [hl]; omega)]
      simp
    | succ j =>
      rw [List.flatMap_cons, List.getElem?_append_right (by rw [hl]; omega), hl]
      have := ih (j := j) (by simpa using h)
      rw [← this]; congr 1; omega
theorem flat_length (rs : List (Key × (Value × List Int))) : (rs.flatMap flC).length = rs.length * 5 := by
  induction rs with
  | nil => rfl
  | cons r rs ih => rw [List.flatMap_cons, List.length_append, ih]; simp [flC]; omega

/-- What lies where, for a reader. -/
theorem flat_cells {w : World} {v : Value} {rs : List (Key × (Value × List Int))} (h : w.ownsRow 0 69 5 v rs.length (rs.flatMap flC)) {j : Nat} {r : Key × (Value × List Int)} (hr : rs[j]? = some r) :
    ∃ g cap, v = .slice (some ⟨g, 0, none⟩) rs.length cap ∧ w.cell? ⟨g, j * 5, none⟩ = some (.string r.1.db) ∧ w.cell? ⟨g, j * 5 + 1, none⟩ = some (.string r.1.role) ∧ w.cell? ⟨g, j * 5 + 2, none⟩ = some (.int .i64 r.1.format) ∧
      w.cell? ⟨g, j * 5 + 3, none⟩ = some (.string r.1.norm) ∧ w.cell? ⟨g, j * 5 + 4, none⟩ = some r.2.1 := by
  have hc := fun g => h.cells (g := g)
  have hjl := (List.getElem?_eq_some_iff.1 hr).1
  rcases h.2 with ⟨_, h0⟩ | ⟨g, cap, cur, rfl, _⟩
  · omega
  · have hq : ∀ q, q < 5 → w.cell? ⟨g, j * 5 + q, none⟩ = (flC r)[q]? := fun q hq => by
      have e := flat_get hr hq
      have hadd : (⟨g, 0, none⟩ : Addr).add (j * 5 + q) = ⟨g, j * 5 + q, none⟩ := by unfold Addr.add; split <;> simp_all
      have hlt : j * 5 + q < (rs.flatMap flC).length := by rw [flat_length]; omega
      have := hc g rfl (j * 5 + q) _ (List.getElem?_eq_getElem hlt)
      rw [hadd] at this
      rw [this, ← e, List.getElem?_eq_getElem hlt]
    exact ⟨g, cap, rfl, hq 0 (by omega), hq 1 (by omega), hq 2 (by omega), hq 3 (by omega), hq 4 (by omega)⟩

/-- place: where it is, or that it is not. -/
def PlaceAt (l : List Int) (c r : Int) : Prop := (r = -1 ∧ c ∉ l) ∨ ∃ j : Nat, r = j ∧ l[j]? = some c ∧ ∀ q, q < j → l[q]? ≠ some c

set_option maxHeartbeats 800000 in
theorem place_any {w : World} {A : Option Addr} {n cp : Nat} {l : List Int} (h : RowI w A n l) (c : Int) (hn : n < 1000000) :
    Calls Try.prog 29 #[.slice A n cp, .int .i64 c] w fun e w' => ∃ r, e = .returned (.int .i64 r) ∧ PlaceAt l c r ∧ w = w' := by
  obtain ⟨e1, h⟩ := h
  have E := Lib.hid e1
  have H := Lib.hid h
  clear h e1
  go_enter Try.func29, Try.ntmps29
  go_wp2
  go_loop [5] (fun i => ∃ j : Nat, j ≤ n ∧ i = .int .i64 j ∧ Hid (∀ q, q < j → l[q]? ≠ some c)) (fun i => n - (intOf i).toNat)
  case atStart => exact ⟨0, Nat.zero_le _, rfl, Lib.hid (fun q hq => absurd hq (by omega))⟩
  case round =>
    obtain ⟨j, hj, rfl, hq⟩ := hrel
    by_cases hlt : j < n
    · obtain ⟨g, o, rfl, hg⟩ : ∃ g o, A = some ⟨g, o, none⟩ ∧ ∀ j, j < n → w.cell? ⟨g, o + j, none⟩ = some (.int .i64 (l.getD j 0)) := by
        rcases H.out with ⟨_, h⟩ | h
        · omega
        · exact h
      have c1 := hg j hlt
      have hgl : Hid (l[j]? = some (l.getD j 0)) := Lib.hid (by
        have : j < l.length := by have := E.out; omega
        simp [List.getD_eq_getElem?_getD, List.getElem?_eq_getElem this])
      clear hg
      generalize l.getD j 0 = x at c1 hgl
      by_cases hx : x = c
      · have hb : (x == c) = true := by simp [hx]
        go_wp2
        go_ret
        exact ⟨j, rfl, .inr ⟨j, rfl, by rw [hgl.out, hx], hq.out⟩, rfl⟩
      · have hb : (x == c) = false := by simp [hx]
        go_wp2_with fail
        go_round
        case rel => exact ⟨j + 1, by omega, by go_num, Lib.hid (fun q hq' => by
          by_cases h : q < j
          · exact hq.out q h
          · have : q = j := by omega
            subst this
            rw [hgl.out]; intro e; exact hx (Option.some.inj e))⟩
        case measure => simp [intOf]; omega
    · have hjn : j = n := by omega
      subst hjn
      go_wp2
      go_ret
      exact ⟨-1, rfl, .inl ⟨rfl, fun hm => by
        obtain ⟨q, hq1, hq2⟩ := List.getElem_of_mem hm
        exact hq.out q (by have := E.out; omega) (by rw [List.getElem?_eq_getElem hq1, hq2])⟩, rfl⟩

theorem rk_eqIn (W : World) (d r n d' r' n' : ByteArray) (f f' : Int) :
    (Op.equalIn 10000 53 (.agg #[.string d, .string r, .int .i64 f, .string n]) (.agg #[.string d', .string r', .int .i64 f', .string n'])).run Try.prog W = .ok (sameK ⟨d, r, f, n⟩ ⟨d', r', f', n'⟩) W := by
  have hb : sameK ⟨d, r, f, n⟩ ⟨d', r', f', n'⟩ = (d.toList == d'.toList && (r.toList == r'.toList && (f == f' && (n.toList == n'.toList)))) := by
    unfold sameK
    rw [bytes_beq, bytes_beq, bytes_beq, Bool.eq_iff_iff]
    simp
  rw [hb]
  have hE : (Op.equalIn 10000 53 (.agg #[.string d, .string r, .int .i64 f, .string n]) (.agg #[.string d', .string r', .int .i64 f', .string n'])).run Try.prog W = .ok (d.toList == d'.toList && (r.toList == r'.toList && (f == f' && (n.toList == n'.toList && true)))) W := by
    refine eqF_of (d := 9999) Try.underlying53 (by kernel_rfl) ?_
    refine eqF_step (by rfl) (by go_simp; rfl) (by go_simp; rfl) (by go_simp) ?_
    refine eqF_step (by rfl) (by go_simp; rfl) (by go_simp; rfl) (by go_simp) ?_
    refine eqF_step (by rfl) (by go_simp; rfl) (by go_simp; rfl) (by go_simp) ?_
    exact eqF_step (by rfl) (by go_simp; rfl) (by go_simp; rfl) (by go_simp) eqF_nil
  rw [hE, Bool.and_true]
theorem rk_eql (W : World) (d r n d' r' n' : ByteArray) (f f' : Int) :
    (binOp .eql 53 (.agg #[.string d, .string r, .int .i64 f, .string n]) (.agg #[.string d', .string r', .int .i64 f', .string n'])).run Try.prog W = .ok (.bool (sameK ⟨d, r, f, n⟩ ⟨d', r', f', n'⟩)) W := by
  rw [run_eql_struct, rk_eqIn]; rfl
theorem rk_neq (W : World) (d r n d' r' n' : ByteArray) (f f' : Int) :
    (binOp .neq 53 (.agg #[.string d, .string r, .int .i64 f, .string n]) (.agg #[.string d', .string r', .int .i64 f', .string n'])).run Try.prog W = .ok (.bool (!sameK ⟨d, r, f, n⟩ ⟨d', r', f', n'⟩)) W := by
  rw [run_neq_struct, rk_eqIn]; rfl

def boxR (w : World) (k : Key) : World := w.alloc (.cells #[.string k.db, .string k.role, .int .i64 k.format, .string k.norm] 53)
theorem boxR_cells (w : World) (k : Key) : (boxR w k).cell? ⟨w.heap.size, 0, none⟩ = some (.string k.db) ∧ (boxR w k).cell? ⟨w.heap.size, 1, none⟩ = some (.string k.role) ∧ (boxR w k).cell? ⟨w.heap.size, 2, none⟩ = some (.int .i64 k.format) ∧ (boxR w k).cell? ⟨w.heap.size, 3, none⟩ = some (.string k.norm) := by
  have e0 : (boxR w k).heap[w.heap.size]? = some (.cells #[.string k.db, .string k.role, .int .i64 k.format, .string k.norm] 53 (0, 0)) := heap_alloc_new w _
  exact ⟨by rw [cell_of e0]; rfl, by rw [cell_of e0]; rfl, by rw [cell_of e0]; rfl, by rw [cell_of e0]; rfl⟩

/-- of: where the flight with this client is. -/
def OfAt (L : List (Key × List Int)) (c r : Int) : Prop := (r = -1 ∧ ∀ p ∈ L, c ∉ p.2) ∨ ∃ (j : Nat) (p : Key × List Int), r = j ∧ L[j]? = some p ∧ c ∈ p.2
/-- find: where the flight of this key is. -/
def FindAt (L : List (Key × List Int)) (k : Key) (r : Int) : Prop := (r = -1 ∧ ∀ p ∈ L, p.1 ≠ k) ∨ ∃ (j : Nat) (p : Key × List Int), r = j ∧ L[j]? = some p ∧ p.1 = k

set_option maxHeartbeats 800000 in
theorem of_any {w : World} {pr : Nat} {F : List Nat} {L : List (Key × List Int)} (h : RBR w pr F L) (c : Int) (hn : L.length < 1000000) (hl : ∀ p ∈ L, p.2.length < 1000000) :
    Calls Try.prog 26 #[.pointer (some ⟨pr, 0, none⟩), .int .i64 c] w fun e w' => ∃ r, e = .returned (.int .i64 r) ∧ OfAt L c r ∧ w = w' := by
  obtain ⟨v, rs, h1, h2, h3, h4, hF, _⟩ := h
  have c0 : w.cell? ⟨pr, 0, none⟩ = some v := by rw [cell_of h1]; rfl
  obtain ⟨A, cp, rfl⟩ := own_slice' h2
  have H2 := Lib.hid h2; have H3 := Lib.hid h3; have H4 := Lib.hid h4; have HL := Lib.hid hl
  have hnr : rs.length < 1000000 := by rw [h4] at hn; simpa using hn
  clear h2 h3 h4 hl h1
  go_enter Try.func26, Try.ntmps26
  go_wp2
  go_loop [5] (fun i => ∃ j : Nat, j ≤ rs.length ∧ i = .int .i64 j ∧ Hid (∀ q p, q < j → L[q]? = some p → c ∉ p.2)) (fun i => rs.length - (intOf i).toNat)
  case atStart => exact ⟨0, Nat.zero_le _, rfl, Lib.hid (fun q _ hq => absurd hq (by omega))⟩
  case round =>
    obtain ⟨j, hj, rfl, hq⟩ := hrel
    by_cases hlt : j < rs.length
    · obtain ⟨r, hr⟩ : ∃ r, rs[j]? = some r := ⟨_, List.getElem?_eq_getElem hlt⟩
      obtain ⟨g, cap, ev, _, _, _, _, e4⟩ := flat_cells H2.out hr
      cases ev
      have hLj : Hid (L[j]? = some (r.1, r.2.2)) := Lib.hid (by rw [H4.out, List.getElem?_map, hr]; rfl)
      have hown := H3.out r (List.mem_of_getElem? hr)
      obtain ⟨A2, c2, hv2⟩ := own_slice' hown
      rw [hv2] at e4 hown
      have hrow := Lib.hid (RowI.of_own hown rfl)
      have hl2 : r.2.2.length < 1000000 := HL.out _ (List.mem_of_getElem? hLj.out)
      clear hown hv2 hr
      go_wp2_with fail
      refine (place_any hrow.out c hl2).mono ?_
      rintro e w1 ⟨x, rfl, hx, rfl⟩
      have HX := Lib.hid hx
      by_cases hx0 : x < 0
      · have hxx : ¬ (0 : Int) ≤ x := by omega
        clear hx
        go_wp2_with fail
        go_round
        case rel => exact ⟨j + 1, by omega, by go_num, Lib.hid (fun q p hq' hp => by
          by_cases h : q < j
          · exact hq.out q p h hp
          · have : q = j := by omega
            subst this
            rw [hLj.out] at hp; cases hp
            rcases HX.out with ⟨_, h⟩ | ⟨y, h, _⟩
            · exact h
            · omega)⟩
        case measure => simp [intOf]; omega
      · have hxx : (0 : Int) ≤ x := by omega
        clear hx
        go_wp2
        go_ret
        refine ⟨j, rfl, .inr ⟨j, _, rfl, hLj.out, ?_⟩, rfl⟩
        rcases HX.out with ⟨h, _⟩ | ⟨y, _, h, _⟩
        · omega
        · exact List.mem_of_getElem? h
    · have hjn : j = rs.length := by omega
      subst hjn
      go_wp2
      go_ret
      exact ⟨-1, rfl, .inl ⟨rfl, fun p hp => by
        obtain ⟨q, hq1, hq2⟩ := List.getElem_of_mem hp
        exact hq.out q p (by have := H4.out; rw [this] at hq1; simpa using hq1) (by rw [List.getElem?_eq_getElem hq1, hq2])⟩, rfl⟩

attribute [local go_sem high] rk_eql
set_option maxHeartbeats 800000 in
theorem find_any {w : World} {pr : Nat} {F : List Nat} {L : List (Key × List Int)} (h : RBR w pr F L) (k : Key) (hn : L.length < 1000000) :
    Calls Try.prog 27 #[.pointer (some ⟨pr, 0, none⟩), .agg #[.string k.db, .string k.role, .int .i64 k.format, .string k.norm]] w fun e w' => ∃ r, e = .returned (.int .i64 r) ∧ FindAt L k r ∧ Touch [] w w' := by
  have tb : Touch [] w (boxR w k) := (Touch.refl _ _).alloc _
  have hb := h.kept tb (by simp)
  have kb := boxR_cells w k
  obtain ⟨v, rs, h1, h2, h3, h4, hF, _⟩ := hb
  have c0 : (boxR w k).cell? ⟨pr, 0, none⟩ = some v := by rw [cell_of h1]; rfl
  obtain ⟨A, cp, rfl⟩ := own_slice' h2
  have H2 := Lib.hid h2; have H4 := Lib.hid h4
  have hnr : rs.length < 1000000 := by rw [h4] at hn; simpa using hn
  clear h2 h3 h4 h1 h
  go_enter Try.func27, Try.ntmps27
  go_wp2_with fail
  unfold boxR at *
  generalize w.heap.size = kk at *
  generalize w.alloc (.cells #[.string k.db, .string k.role, .int .i64 k.format, .string k.norm] 53) = V at *
  obtain ⟨k0, k1, k2, k3⟩ := kb
  go_loopw [5] (fun i wr => ∃ j : Nat, j ≤ rs.length ∧ i = .int .i64 j ∧ Hid (∀ q p, q < j → L[q]? = some p → p.1 ≠ k) ∧ Touch [] V wr) (fun i _ => rs.length - (intOf i).toNat)
  case atStart => exact ⟨0, Nat.zero_le _, rfl, Lib.hid (fun q _ hq => absurd hq (by omega)), Touch.refl _ _⟩
  case round =>
    obtain ⟨j, hj, rfl, hq, hT⟩ := hrel
    have d0 := hT.cell c0 (by simp)
    by_cases hlt : j < rs.length
    · obtain ⟨r, hr⟩ : ∃ r, rs[j]? = some r := ⟨_, List.getElem?_eq_getElem hlt⟩
      obtain ⟨g, cap, ev, e0, e1, e2, e3, _⟩ := flat_cells H2.out hr
      cases ev
      have hLj : Hid (L[j]? = some (r.1, r.2.2)) := Lib.hid (by rw [H4.out, List.getElem?_map, hr]; rfl)
      have e0 := hT.cell e0 (by simp); have e1 := hT.cell e1 (by simp); have e2 := hT.cell e2 (by simp); have e3 := hT.cell e3 (by simp)
      have k0 := hT.cell k0 (by simp); have k1 := hT.cell k1 (by simp); have k2 := hT.cell k2 (by simp); have k3 := hT.cell k3 (by simp)
      clear hr
      obtain ⟨rk, rv⟩ := r
      simp only at e0 e1 e2 e3 hLj
      cases hs : sameK rk k with
      | false =>
        have hne := Lib.hid (show rk ≠ k by simpa [sameK] using hs)
        go_wp2_with fail
        go_quiet (fail)
        clear e0 e1 e2 e3 k0 k1 k2 k3
        go_wp2_with fail
        go_roundw
        case rel => exact ⟨j + 1, by omega, by go_num, Lib.hid (fun q p hq' hp => by
          by_cases h : q < j
          · exact hq.out q p h hp
          · have : q = j := by omega
            subst this
            rw [hLj.out] at hp; cases hp
            exact hne.out), hT.drewN _⟩
        case measure => simp [intOf]; omega
      | true =>
        have he := Lib.hid (show rk = k by simpa [sameK] using hs)
        go_wp2_with fail
        go_quiet (fail)
        go_wp2
        go_ret
        exact ⟨j, rfl, .inr ⟨j, _, rfl, hLj.out, he.out⟩, (tb.trans hT (by simp)).drewN _⟩
    · have hjn : j = rs.length := by omega
      subst hjn
      go_wp2
      go_ret
      exact ⟨-1, rfl, .inl ⟨rfl, fun p hp => by
        obtain ⟨q, hq1, hq2⟩ := List.getElem_of_mem hp
        exact hq.out q p (by have := H4.out; rw [this] at hq1; simpa using hq1) (by rw [List.getElem?_eq_getElem hq1, hq2])⟩, tb.trans hT (by simp)⟩

/-- The document's Waits. -/
def rwaits (L : List (Key × List Int)) (c : Int) (kb : Key × Bool) : Prop := (kb = (zk, false) ∧ ∀ p ∈ L, c ∉ p.2) ∨ (kb.2 = true ∧ ∃ p ∈ L, p.1 = kb.1 ∧ c ∈ p.2)
set_option maxHeartbeats 800000 in
theorem rWaits_any {w : World} {pr : Nat} {F : List Nat} {L : List (Key × List Int)} (h : RBR w pr F L) (c : Int) (hn : L.length < 1000000) (hl : ∀ p ∈ L, p.2.length < 1000000) :
    Calls Try.prog 24 #[.pointer (some ⟨pr, 0, none⟩), .int .i64 c] w fun e w' => ∃ k b, e = .returned (.tuple #[keyV k, .bool b]) ∧ rwaits L c (k, b) ∧ Touch [] w w' := by
  have tb : Touch [] w (boxR w zk) := (Touch.refl _ _).alloc _
  have hb := h.kept tb (by simp)
  have hkk : w.heap.size < (boxR w zk).heap.size := by simp [boxR]
  have e0 : (boxR w zk).heap[w.heap.size]? = some (.cells #[.string ⟨#[]⟩, .string ⟨#[]⟩, .int .i64 0, .string ⟨#[]⟩] 53 (0, 0)) := heap_alloc_new w _
  have hpr := (h.lt pr (by obtain ⟨_, _, _, _, _, _, rfl, _⟩ := h; simp))
  unfold boxR at tb hb hkk e0
  simp only [zk] at tb hb hkk e0
  go_enter Try.func24, Try.ntmps24
  go_wp2_with fail
  generalize w.alloc (.cells #[.string ⟨#[]⟩, .string ⟨#[]⟩, .int .i64 0, .string ⟨#[]⟩] 53) = V at *
  refine (of_any hb c hn hl).mono ?_
  rintro e w1 ⟨r, rfl, hr, rfl⟩
  have z0 : V.cell? ⟨w.heap.size, 0, none⟩ = some (.string ⟨#[]⟩) := by rw [cell_of e0]; rfl
  have z1 : V.cell? ⟨w.heap.size, 1, none⟩ = some (.string ⟨#[]⟩) := by rw [cell_of e0]; rfl
  have z2 : V.cell? ⟨w.heap.size, 2, none⟩ = some (.int .i64 0) := by rw [cell_of e0]; rfl
  have z3 : V.cell? ⟨w.heap.size, 3, none⟩ = some (.string ⟨#[]⟩) := by rw [cell_of e0]; rfl
  have f0 := frozen_of e0 0
  have f1 := frozen_of e0 1
  have f2 := frozen_of e0 2
  have f3 := frozen_of e0 3
  have hset : Touch [] w ((((V.setCell ⟨w.heap.size, 0, none⟩ (.string ⟨#[]⟩)).setCell ⟨w.heap.size, 1, none⟩ (.string ⟨#[]⟩)).setCell ⟨w.heap.size, 2, none⟩ (.int .i64 0)).setCell ⟨w.heap.size, 3, none⟩ (.string ⟨#[]⟩)) := (((tb.setCell _ (.inr (Nat.le_refl _))).setCell _ (.inr (Nat.le_refl _))).setCell _ (.inr (Nat.le_refl _))).setCell _ (.inr (Nat.le_refl _))
  rcases hr with ⟨rfl, hr⟩ | ⟨j, p, rfl, hj, hp⟩
  · have Hr := Lib.hid hr
    clear hr
    go_wp2
    exact bodyPost_ret (v := .tuple #[keyV zk, .bool false]) (by simp [results, Try.results24, go_sem, keyV, zk, z0, z1, z2, z3]) rfl ⟨zk, false, rfl, .inl ⟨rfl, Hr.out⟩, hset⟩
  · obtain ⟨v, rs, h1, h2, h3, h4, hF, _⟩ := hb
    have c0 : V.cell? ⟨pr, 0, none⟩ = some v := by rw [cell_of h1]; rfl
    rw [h4, List.getElem?_map, Option.map_eq_some_iff] at hj
    obtain ⟨q, hq, rfl⟩ := hj
    obtain ⟨g, cap, rfl, g0, g1, g2, g3, _⟩ := flat_cells h2 hq
    have hjl := (List.getElem?_eq_some_iff.1 hq).1
    have hm : Hid ((q.1, q.2.2) ∈ L) := Lib.hid (by rw [h4]; exact List.mem_map.2 ⟨q, List.mem_of_getElem? hq, rfl⟩)
    have Hp := Lib.hid hp
    obtain ⟨qk, qv⟩ := q
    simp only at g0 g1 g2 g3 hm
    clear h2 h3 h4 hq hp h1
    go_wp2
    refine bodyPost_ret (v := .tuple #[keyV qk, .bool true]) (by simp [results, Try.results24, go_sem, keyV, z0, z1, z2, z3]) rfl ⟨qk, true, rfl, .inr ⟨rfl, _, hm.out, rfl, Hp.out⟩, ?_⟩
    exact (((tb.setCell _ (.inr (Nat.le_refl _))).setCell _ (.inr (Nat.le_refl _))).setCell _ (.inr (Nat.le_refl _))).setCell _ (.inr (Nat.le_refl _))

set_option maxHeartbeats 800000 in
theorem rLeader_any {w : World} {pr : Nat} {F : List Nat} {L : List (Key × List Int)} (h : RBR w pr F L) (k : Key) (hn : L.length < 1000000) (hne : ∀ p ∈ L, p.2 ≠ []) (hnd : (L.map (·.1)).Nodup) :
    Calls Try.prog 23 #[.pointer (some ⟨pr, 0, none⟩), .agg #[.string k.db, .string k.role, .int .i64 k.format, .string k.norm]] w fun e w' => e = .returned (.tuple #[.int .i64 (BM.leader ⟨L, []⟩ k).1, .bool (BM.leader ⟨L, []⟩ k).2]) ∧ Touch [] w w' := by
  have tb : Touch [] w (boxR w k) := (Touch.refl _ _).alloc _
  have hb := h.kept tb (by simp)
  unfold boxR at tb hb
  have Hne := Lib.hid hne; have Hnd := Lib.hid hnd
  clear hne hnd h
  go_enter Try.func23, Try.ntmps23
  go_wp2_with fail
  generalize w.alloc (.cells #[.string k.db, .string k.role, .int .i64 k.format, .string k.norm] 53) = V at *
  refine (find_any hb k hn).mono ?_
  rintro e w1 ⟨r, rfl, hr, t1⟩
  have hb1 := hb.kept t1 (by simp)
  have t := tb.trans t1 (by simp)
  clear hb
  rcases hr with ⟨rfl, hr⟩ | ⟨j, p, rfl, hj, rfl⟩
  · have Hr : Hid (BM.leader ⟨L, []⟩ k = (0, false)) := Lib.hid (by unfold BM.leader; rw [mget_none.2 hr])
    clear hr
    go_wp2
    go_ret2
    exact ⟨by rw [Hr.out]; rfl, t⟩
  · obtain ⟨v, rs, h1, h2, h3, h4, hF, _⟩ := hb1
    have c0 : w1.cell? ⟨pr, 0, none⟩ = some v := by rw [cell_of h1]; rfl
    have hm : mget L p.1 = some p.2 := mem_mget Hnd.out (List.mem_of_getElem? hj)
    have hpn := Hne.out p (List.mem_of_getElem? hj)
    rw [h4, List.getElem?_map, Option.map_eq_some_iff] at hj
    obtain ⟨q, hq, rfl⟩ := hj
    obtain ⟨g, cap, rfl, _, _, _, _, g4⟩ := flat_cells h2 hq
    have hown := h3 q (List.mem_of_getElem? hq)
    have hjl := (List.getElem?_eq_some_iff.1 hq).1
    obtain ⟨qk, qv, ql⟩ := q
    simp only at hpn hm g4 hown ⊢
    obtain ⟨x, l, rfl⟩ : ∃ x l, ql = x :: l := by cases ql with
      | nil => exact absurd rfl hpn
      | cons x l => exact ⟨x, l, rfl⟩
    obtain ⟨g', cap', rfl, hcl⟩ := own_cells (xs := intsV l) (x := .int .i64 x) hown
    have e0 := hcl 0 _ rfl
    have Hr : Hid (BM.leader ⟨L, []⟩ qk = (x, true)) := Lib.hid (by unfold BM.leader; rw [hm])
    clear h2 h3 h4 hq hm h1 hcl hown hpn
    go_wp2
    go_ret2
    exact ⟨by rw [Hr.out]; rfl, t⟩
end Go.Proofs.Ytjmgookpmngmaab
