/- A gauge's Copy: another one, with a row of its own. -/
import Derived.Test.YtmgcmheiabmajaaGa5
import Derived.Test.YtmgcmheiabmajaaMapOps
namespace Go.Proofs.Ytmgcmheiabmajaa
open Go Go.RowKit Go.Maps Go.Proofs.YtmgcmheiabmajaaW.PrintWords Go.Proofs.YtmgcmheiabmajaaW.PrintLast

def fl (L : List SB) : List Value := L.flatMap fun x => [.int .i64 x.b, .int .i64 x.c]
theorem fl_len (L : List SB) : (fl L).length = L.length * 2 := by
  induction L with
  | nil => rfl
  | cons a r ih =>
    show ([Value.int .i64 a.b, Value.int .i64 a.c] ++ fl r).length = _
    rw [List.length_append, ih]
    simp only [List.length_cons, List.length_nil]
    omega
theorem fl_get : ∀ (L : List SB) (j : Nat) (u : Value), (fl L)[j]? = some u → ∃ i x, L[i]? = some x ∧ ((j = i * 2 ∧ u = .int .i64 x.b) ∨ (j = i * 2 + 1 ∧ u = .int .i64 x.c))
  | [], j, u, h => by simp [fl] at h
  | a :: r, 0, u, h => by
    have h : (some (Value.int .i64 a.b)) = some u := h
    exact ⟨0, a, rfl, .inl ⟨rfl, (Option.some.inj h).symm⟩⟩
  | a :: r, 1, u, h => by
    have h : (some (Value.int .i64 a.c)) = some u := h
    exact ⟨0, a, rfl, .inr ⟨rfl, (Option.some.inj h).symm⟩⟩
  | a :: r, j + 2, u, h => by
    have h : (fl r)[j]? = some u := h
    obtain ⟨i, x, hx, hh⟩ := fl_get r j u h
    refine ⟨i + 1, x, hx, ?_⟩
    rcases hh with ⟨e, f⟩ | ⟨e, f⟩
    · exact .inl ⟨by omega, f⟩
    · exact .inr ⟨by omega, f⟩
theorem fl_at : ∀ (L : List SB) (i : Nat) (x : SB), L[i]? = some x → (fl L)[i * 2]? = some (.int .i64 x.b) ∧ (fl L)[i * 2 + 1]? = some (.int .i64 x.c)
  | [], i, x, h => by simp at h
  | a :: r, 0, x, h => by
    have h : some a = some x := h
    cases h
    exact ⟨rfl, rfl⟩
  | a :: r, i + 1, x, h => by
    have h : r[i]? = some x := h
    have := fl_at r i x h
    rw [show (i + 1) * 2 = i * 2 + 2 by omega]
    exact this
theorem fl_one (L : List SB) : ∀ u ∈ fl L, u.oneCell' = true := by
  intro u hu
  obtain ⟨x, _, hx⟩ := List.mem_flatMap.1 hu
  simp only [List.mem_cons, List.not_mem_nil, or_false] at hx
  rcases hx with rfl | rfl <;> rfl
theorem add_pl (g o m : Nat) : (⟨g, o, none⟩ : Addr).add m = ⟨g, o + m, none⟩ := by unfold Addr.add; split <;> simp_all
theorem infoB : (Try.prog.info? 50).map (fun i => (i.zero, i.size, i.bytes)) = some (some (.agg #[.int .i64 0, .int .i64 0]), 2, 16) := by kernel_rfl
theorem info_b {o : Option TypeInfo} {z : Option Value} {s b : Nat} (h : o.map (fun i => (i.zero, i.size, i.bytes)) = some (z, s, b)) : ∃ i, o = some i ∧ i.zero = z ∧ i.size = s ∧ i.bytes = b := by
  obtain ⟨i, h1, h2⟩ := Option.map_eq_some_iff.1 h
  simp only [Prod.mk.injEq] at h2
  exact ⟨i, h1, h2.1, h2.2.1, h2.2.2⟩
theorem own_sl {w : World} {base e k n : Nat} {v : Value} {xs : List Value} (h : w.ownsRow base e k v n xs) : ∃ A c, v = .slice A n c := by
  rcases h.2 with ⟨h0, h1⟩ | ⟨g', cap, cur, hv, _⟩
  · exact ⟨none, 0, by rw [h0, h1]⟩
  · exact ⟨_, _, hv⟩
/-- A row of the call's own, with a block that names it, is a gauge. -/
theorem GA.of_own {w : World} {p base cp g : Nat} {L : List SB} {t s : Int} (h : w.ownsRow base 50 2 (.slice (some ⟨g, 0, none⟩) L.length cp) L.length (fl L)) (hb : w.heap[p]? = some (.cells #[.slice (some ⟨g, 0, none⟩) L.length cp, .int .i64 t, .int .i64 s] 48 (0, 0))) (hf : 0 < L.length ∧ L.length ≤ 101) : GA w p g cp L t s := by
  have hc := fun g => h.cells (g := g)
  rcases h.2 with ⟨h0, _⟩ | ⟨g', cap, cur, hv, _, hh, hle, _⟩
  · cases h0
  · cases hv
    refine ⟨hb, ⟨cur, hh, fun j x hj => ?_⟩, by first | exact hle | omega, hf⟩
    obtain ⟨h1, h2⟩ := fl_at L j x hj
    have a1 := hc g rfl _ _ h1
    have a2 := hc g rfl _ _ h2
    rw [add_pl, Nat.zero_add, cell_of hh] at a1 a2
    exact ⟨a1, a2⟩
section
variable {w : World} {p b cp : Nat} {L : List SB} {t s : Int}
theorem GA.news (h : GA w p b cp L t s) : ∀ (j : Nat) (u : Value), (fl L)[j]? = some u → w.cell? ((⟨b, 0, none⟩ : Addr).add j) = some u := by
  intro j u hu
  obtain ⟨i, x, hx, hh⟩ := fl_get L j u hu
  obtain ⟨h1, h2, _⟩ := h.at i x hx
  rw [add_pl, Nat.zero_add]
  rcases hh with ⟨rfl, rfl⟩ | ⟨rfl, rfl⟩
  · exact h1
  · exact h2
def CopyP (w : World) (L : List SB) (t s : Int) (e : Ending) (w' : World) : Prop := ∃ p' b' cp', e = .returned (.pointer (some ⟨p', 0, none⟩)) ∧ GA w' p' b' cp' L t s ∧ w.heap.size ≤ p' ∧ w.heap.size ≤ b' ∧ Below w.heap.size w w'
theorem copy_fin {w5 : World} {A1 : Option Addr} {cp1 : Nat} (h : w5.ownsRow 0 50 2 (.slice A1 (0 + L.length) cp1) (0 + L.length) ([] ++ fl L)) (hg : w.drew.grownBy w5 none) (hl : (Value.slice A1 (0 + L.length) cp1).ownBlock = (Value.slice none 0 0).ownBlock ∨ (Value.slice A1 (0 + L.length) cp1).ownBlock = some w.drew.heap.size) (hf : 0 < L.length ∧ L.length ≤ 101) :
    CopyP w L t s (.returned (.pointer (some ⟨w5.heap.size, 0, none⟩))) (w5.alloc (.cells #[.slice A1 L.length cp1, .int .i64 t, .int .i64 s] 48)) := by
  rw [Nat.zero_add] at h hl
  rw [List.nil_append] at h
  have hsz : w.heap.size ≤ w5.heap.size := hg.size
  have hbel : Touch [] w w5 := (Touch.refl [] w).drew.grownBy hg (fun i hi => by cases hi)
  have h2 := h.2
  rcases h2 with ⟨h0, h1⟩ | ⟨g, cap, cur, hv, _, hh, _⟩
  · omega
  · obtain ⟨rfl, rfl⟩ : A1 = some ⟨g, 0, none⟩ ∧ cp1 = cap := by cases hv; exact ⟨rfl, rfl⟩
    have hgs : g = w.heap.size := by
      rcases hl with e | e
      · simp [Value.ownBlock] at e
      · simpa [Value.ownBlock] using e
    refine ⟨w5.heap.size, g, cp1, rfl, GA.of_own (base := 0) (own_move h (fun k hk => ?_)) (heap_alloc_new w5 _) hf, hsz, by omega, (hbel.alloc _).below (Nat.le_refl _) (by simp)⟩
    have : k = g := by simpa [Value.ownBlock] using hk.symm
    subst this
    exact RowKit.Below.heap_alloc _ _ _ (heap_lt hh)
set_option maxHeartbeats 2000000 in
theorem copy_any (h : GA w p b cp L t s) : Calls Try.prog 20 #[.pointer (some ⟨p, 0, none⟩)] w (CopyP w L t s) := by
  have HT := Lib.hid (there_any h)
  have HG := Lib.hid h
  have hlen : L.length ≤ 101 := h.few.2
  obtain ⟨c0, c1, c2, _⟩ := h.cells
  obtain ⟨i0, hi0, hz0, hz1, hz2⟩ := info_b infoB
  have Hone := Lib.hid (fl_one L)
  clear h
  go_enter Try.func20, Try.ntmps20
  repeat (first | go_step3 | go_values | go_skip | go_guarded | go_step | go_upon)
  (go_at_call 23; refine HT.out.mono ?_; rintro e w1 ⟨rfl, rfl⟩; dsimp only)
  repeat (first | go_step3 | go_values | go_skip | go_guarded | go_step | go_upon)
  have d0 : w1.drew.cell? ⟨p, 0, none⟩ = some (.slice (some ⟨b, 0, none⟩) L.length cp) := c0
  have d1 : w1.drew.cell? ⟨p, 1, none⟩ = some (.int .i64 t) := c1
  have d2 : w1.drew.cell? ⟨p, 2, none⟩ = some (.int .i64 s) := c2
  have Hnews : Hid (∀ (j : Nat) (u : Value), (fl L)[j]? = some u → w1.drew.cell? ((⟨b, 0, none⟩ : Addr).add j) = some u) := Lib.hid HG.out.news
  have Tn : Hid (∀ w5, w1.drew.grownBy w5 none → w5.cell? ⟨p, 0, none⟩ = some (.slice (some ⟨b, 0, none⟩) L.length cp) ∧ w5.cell? ⟨p, 1, none⟩ = some (.int .i64 t) ∧ w5.cell? ⟨p, 2, none⟩ = some (.int .i64 s)) := Lib.hid (fun w5 g => by
    have k : Touch [] w1 w5 := (Touch.refl [] w1).drew.grownBy g (fun i hi => by cases hi)
    exact ⟨k.cell c0 (by simp), k.cell c1 (by simp), k.cell c2 (by simp)⟩)
  go_region_law (refine step_append_at rfl _ _ 46 rfl 0 50 i0 (.agg #[.int .i64 0, .int .i64 0]) 2 16 Try.underlying46 hi0 hz0 hz1 hz2 rfl (by decide) (.slice none 0 0) 0 [] rfl (World.ownsRow_nil _ _ _ _) ⟨b, 0, none⟩ L.length cp (fl L) rfl (fl_len L) Hnews.out Hone.out (by simp [maxLen]; omega) (by omega) (Nat.zero_le _) ?_; intro v1 w5 hown5 hgr hloc; obtain ⟨f0, f1, f2⟩ := Tn.out w5 (by simpa [Value.ownBlock] using hgr); obtain ⟨A1, cp1, rfl⟩ := own_sl hown5)
  all_goals
    have HFin := Lib.hid (copy_fin (w := w1) (L := L) (t := t) (s := s) hown5 (by simpa [Value.ownBlock] using hgr) hloc HG.out.few)
    clear hown5 hgr hloc
    try dsimp only
    repeat (first | go_step3 | go_values | go_skip | go_guarded | go_step | go_upon)
    go_ret
    exact HFin.out
end
end Go.Proofs.Ytmgcmheiabmajaa
