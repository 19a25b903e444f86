/- load: the pure statements behind LoadDraws and LoadMakes. -/
import Derived.Test.YtmgcmheiabmajabPrx
namespace Go.Proofs.Ytmgcmheiabmajab
open Go Go.RowKit Go.Proofs.Ytmgcmheiabmajab.Pr Go.Proofs.YtmgcmheiabmajabW.PrintWords Go.Proofs.YtmgcmheiabmajabW.PrintLast

theorem rright_l (n : Int) (s r : ByteArray) (hs : Plain s) (hr : r = noS) : ∀ (d k i : Nat), i + d = s.size → d < k → pontoonref27_Right.l0 k i 2 n s r = some true := by
  intro d
  induction d with
  | zero =>
    intro k i hi hk
    obtain ⟨k, rfl⟩ : ∃ m, k = m + 1 := ⟨k - 1, by omega⟩
    simp only [pontoonref27_Right.l0]
    rw [if_neg (by omega), hr, noS_beq]
  | succ d ih =>
    intro k i hi hk
    obtain ⟨k, rfl⟩ : ∃ m, k = m + 1 := ⟨k - 1, by omega⟩
    have hlt : i < s.size := by omega
    have hb : ¬ bt s (i : Int) = 10 := by
      rw [bt_nat s i hlt]
      intro e
      refine hs.2 _ (List.getElem_mem (by simpa using hlt)) (UInt8.toNat_inj.1 ?_)
      exact Int.ofNat.inj e
    have hz := hs.1
    simp only [pontoonref27_Right.l0]
    rw [if_pos (by omega), if_pos (by omega), if_neg hb, wrap_in (by omega) (by omega)]
    exact ih k (i + 1) (by omega) (by omega)
theorem rlet_d (k : Nat) (hk : 2 ≤ k) : pontoonref27_letters.f k ⟨#[100]⟩ = some true := by
  obtain ⟨k, rfl⟩ : ∃ m, k = m + 1 + 1 := ⟨k - 2, by omega⟩
  unfold pontoonref27_letters.f
  rw [pontoonref27_letters.l0, if_pos (by decide), if_pos (by decide), if_neg (by decide), if_neg (by decide), show wrap64 (0 + 1) = 1 from by unfold wrap64; omega, pontoonref27_letters.l0, if_neg (by show ¬ (1 : Int) < 1; decide)]
  rfl
theorem rlet_r (k : Nat) (hk : 2 ≤ k) : pontoonref27_letters.f k ⟨#[114]⟩ = some true := by
  obtain ⟨k, rfl⟩ : ∃ m, k = m + 1 + 1 := ⟨k - 2, by omega⟩
  unfold pontoonref27_letters.f
  rw [pontoonref27_letters.l0, if_pos (by decide), if_pos (by decide), if_neg (by decide), if_neg (by decide), show wrap64 (0 + 1) = 1 from by unfold wrap64; omega, pontoonref27_letters.l0, if_neg (by show ¬ (1 : Int) < 1; decide)]
  rfl
theorem rright_f (o : OpL) (h : GoodOp o) (k : Nat) (hk : 103 ≤ k) : pontoonref27_Right.f k o.kind o.n o.s o.r = some true := by
  obtain ⟨k, rfl⟩ : ∃ m, k = m + 1 := ⟨k - 1, by omega⟩
  obtain ⟨h0, h1, hc⟩ := h
  have hkd : 1 ≤ o.kind ∧ o.kind ≤ 8 := by omega
  unfold pontoonref27_Right.f
  rw [if_neg (by omega), if_neg (by omega), if_neg (by omega), if_neg (by omega)]
  rcases hc with ⟨e, e2, e3⟩ | ⟨e, e2, e3⟩ | ⟨e, e', e2, e3⟩ | ⟨e, e1, e2, e3⟩
  · rw [if_neg (by omega)]
    simp only [pontoonref27_Right.j0]
    rw [if_neg (by simp), if_pos e, e2, e3, rlet_d k (by omega), rlet_r k (by omega)]
    rfl
  · rw [if_neg (by omega)]
    simp only [pontoonref27_Right.j0]
    rw [if_neg (by simp), if_neg (by omega), if_pos e, e]
    exact rright_l o.n o.s o.r e2 e3 o.s.size k 0 (by omega) (by have := e2.1; omega)
  · rw [if_neg (by omega)]
    simp only [pontoonref27_Right.j0]
    rw [if_neg (by simp), if_neg (by omega), if_neg (by omega), e2, e3, if_pos noS_list, noS_beq]
  · rw [if_pos e, e1]
    simp only [pontoonref27_Right.j0]
    rw [if_neg (by simp), if_neg (by omega), if_neg (by omega), e2, e3, if_pos noS_list, noS_beq]
theorem wf_i64 {n : Int} (h : (Lit.int .i64 n).wf = true) : -9223372036854775808 ≤ n ∧ n ≤ 9223372036854775807 := by
  simpa [Lit.wf, IntKind.min, IntKind.max, IntKind.bits, IntKind.signed] using h
theorem wf_u16 {n : Int} (h : (Lit.int .u16 n).wf = true) : 0 ≤ n ∧ n ≤ 65535 := by
  simpa [Lit.wf, IntKind.min, IntKind.max, IntKind.bits, IntKind.signed] using h
def drawG (x n : Int) : Int × Int := if 1 ≤ n ∧ n ≤ 65536 then (dr x n, nx x) else (0, x)
theorem drawP (x n : Int) : load_Draw.f x n = some (drawG x n) := by
  unfold load_Draw.f drawG
  by_cases h1 : n < 1
  · rw [if_pos h1, if_neg (by omega)]
  by_cases h2 : n > 65536
  · rw [if_neg h1, if_pos h2, if_neg (by omega)]
  have e : load_Next.f x = some (nx x) := rfl
  have hb := nx_bound x
  rw [if_neg h1, if_neg h2, e, Option.bind_some, if_neg (by omega), IntWalk.wrap64_in _ (by omega), Int.tmod_eq_emod_of_nonneg (by omega), if_pos (by omega)]
  rfl
theorem rdrawP (x n : Int) : pontoonref30_Draw.f x n = some (drawG x n) := by
  unfold pontoonref30_Draw.f drawG
  by_cases h1 : n < 1
  · rw [if_pos h1, if_neg (by omega)]
  by_cases h2 : n > 65536
  · rw [if_neg h1, if_pos h2, if_neg (by omega)]
  have e : pontoonref30_Next.f x = some (nx x) := rfl
  have hb := nx_bound x
  rw [if_neg h1, if_neg h2, e, Option.bind_some, if_neg (by omega), IntWalk.wrap64_in _ (by omega), Int.tmod_eq_emod_of_nonneg (by omega), if_pos (by omega)]
  rfl
theorem op_s35 (l : List OpL) : (l.map s35of).map opOf = l := by
  rw [List.map_map]
  conv => rhs; rw [← List.map_id l]
  rfl
theorem show_f (l : List OpL) (hg : ∀ o ∈ l, GoodOp o) (hn : l.length ≤ 1020) : script_Show.f (l.map s35of) = some (showM l) := by
  unfold script_Show.f
  rw [op_s35, if_pos ⟨hg, by rw [List.length_map]; exact hn⟩]
theorem rd_at (l : List OpL) (i : Nat) (h : i < l.length) : rd_T35 (l.map s35of) (i : Int) = s35of l[i] := by
  unfold rd_T35
  rw [Int.toNat_natCast, List.getD_eq_getElem?_getD, List.getElem?_map, List.getElem?_eq_getElem h]
  rfl
theorem same_l (l : List OpL) : ∀ (d k i : Nat), i + d = l.length → d < k → l.length ≤ 5000 → pontoonref27_Same.l0 k (l.map s35of) (l.map s35of) i = some true := by
  intro d
  induction d with
  | zero =>
    intro k i hi hk _
    obtain ⟨k, rfl⟩ : ∃ m, k = m + 1 := ⟨k - 1, by omega⟩
    simp only [pontoonref27_Same.l0]
    rw [if_neg (by rw [List.length_map]; omega)]
  | succ d ih =>
    intro k i hi hk hl
    obtain ⟨k, rfl⟩ : ∃ m, k = m + 1 := ⟨k - 1, by omega⟩
    simp only [pontoonref27_Same.l0]
    rw [if_pos (by rw [List.length_map]; omega), if_pos (by omega), if_pos (by rw [List.length_map]; omega), if_neg (by simp), IntWalk.wrap64_in _ (by omega)]
    exact ih k (i + 1) (by omega) (by omega) hl
theorem same_f (l : List OpL) (k : Nat) (hk : l.length < k) (hl : l.length ≤ 5000) : pontoonref27_Same.f k (l.map s35of) (l.map s35of) = some true := by
  unfold pontoonref27_Same.f
  rw [if_pos rfl]
  exact same_l l l.length k 0 (by omega) hk hl
theorem rshow_l (l : List OpL) (hg : ∀ o ∈ l, GoodOp o) (hn : l.length ≤ 1020) : ∀ (d k i : Nat), i + d = l.length → d + 103 < k → pontoonref27_Show.l0 k (l.map s35of) (showM (l.take i)) i = some (showM l) := by
  intro d
  induction d with
  | zero =>
    intro k i hi hk
    obtain ⟨k, rfl⟩ : ∃ m, k = m + 1 := ⟨k - 1, by omega⟩
    simp only [pontoonref27_Show.l0]
    rw [if_neg (by rw [List.length_map]; omega), List.take_of_length_le (by omega)]
  | succ d ih =>
    intro k i hi hk
    obtain ⟨k, rfl⟩ : ∃ m, k = m + 1 := ⟨k - 1, by omega⟩
    have hlt : i < l.length := by omega
    have hgo := hg _ (List.getElem_mem hlt)
    have hsz := Pr.showM_size l hg i (by omega)
    have hls := Pr.line_size hgo
    rw [Pr.lineM_eq, ByteArray.size_append] at hls
    simp only [pontoonref27_Show.l0]
    have e0 : (rd_T35 (l.map s35of) (i : Int)).f0 = l[i].kind := by rw [rd_at l i hlt]; rfl
    have e1 : (rd_T35 (l.map s35of) (i : Int)).f1 = l[i].n := by rw [rd_at l i hlt]; rfl
    have e2 : (rd_T35 (l.map s35of) (i : Int)).f2 = l[i].s := by rw [rd_at l i hlt]; rfl
    have e3 : (rd_T35 (l.map s35of) (i : Int)).f3 = l[i].r := by rw [rd_at l i hlt]; rfl
    rw [if_pos (by rw [List.length_map]; omega), if_pos (by omega), e0, e1, e2, e3, rright_f l[i] hgo k (by omega), Option.bind_some, if_pos rfl]
    have hf : pontoonref27_line.f l[i].kind l[i].n l[i].s l[i].r = some (Pr.lineB l[i]) := by
      unfold pontoonref27_line.f
      rw [if_pos hgo]
    rw [hf, Option.bind_some, if_pos (by omega), if_pos (by rw [ByteArray.size_append]; omega), IntWalk.wrap64_in _ (by omega)]
    have e4 : showM (l.take i) ++ Pr.lineB l[i] ++ ⟨#[10]⟩ = showM (l.take (i + 1)) := by
      rw [List.take_succ_eq_append_getElem hlt, showM_snoc, Pr.lineM_eq, ByteArray.append_assoc]
    rw [e4]
    exact ih k (i + 1) (by omega) (by omega)
theorem text_f (x c n : Int) : load_Text.f x c n = some (showM (makeM x c n)) := by
  unfold load_Text.f load_Make.f
  rw [Option.bind_some, show_f _ (Pr.make_good x c n) (Pr.make_len x c n)]
  rfl
theorem rtext_f (x c n : Int) (k : Nat) (hk : 1200 ≤ k) : pontoonref30_Text.f k x c n = some (showM (makeM x c n)) := by
  unfold pontoonref30_Text.f pontoonref30_Make.f
  rw [Option.bind_some]
  have h := rshow_l (makeM x c n) (Pr.make_good x c n) (Pr.make_len x c n) (makeM x c n).length k 0 (by omega) (by have := Pr.make_len x c n; omega)
  have e : pontoonref27_Show.f k ((makeM x c n).map s35of) = some (showM (makeM x c n)) := h
  rw [e]
  rfl
theorem next_0 : load_Next.f 0 = some 1442695040888963407 := by decide +kernel
theorem draw_0 : drawG 0 10 = (5, 1442695040888963407) := by decide +kernel
theorem draw_7 : drawG 7 0 = (0, 7) := by decide +kernel
theorem make_2 : makeM 0 2 0 = [⟨1, 0, ⟨#[100]⟩, ⟨#[114]⟩⟩, ⟨1, 1, ⟨#[100]⟩, ⟨#[114]⟩⟩] := by rfl
theorem make_0 : makeM 0 0 5 = [] := by rfl
theorem make_13 : (makeM 3 4 9).length = 13 := by
  unfold makeM
  rw [if_pos (by decide), List.length_append, connM_len, stepsM_len]
  rfl
theorem show_1 : showM (makeM 0 1 0) = ⟨#[99, 111, 110, 110, 101, 99, 116, 32, 48, 32, 100, 32, 114, 10]⟩ := by
  have e : makeM 0 1 0 = [⟨1, 0, ⟨#[100]⟩, ⟨#[114]⟩⟩] := rfl
  have d : digB 0 = ⟨#[48]⟩ := digB_small (by decide)
  rw [e]
  unfold showM lineM
  simp only [List.foldl_cons, List.foldl_nil, if_true]
  rw [show (0 : Int).toNat = 0 from rfl, d]
  rfl
theorem known_f (k : Nat) (hk : 3 ≤ k) : pontoonlaw30_known.f k = some true := by
  have hm : load_Make.f 0 2 0 = some (([⟨1, 0, ⟨#[100]⟩, ⟨#[114]⟩⟩, ⟨1, 1, ⟨#[100]⟩, ⟨#[114]⟩⟩] : List OpL).map s35of) := by unfold load_Make.f; rw [make_2]
  have hm0 : load_Make.f 0 0 5 = some [] := by unfold load_Make.f; rw [make_0]; rfl
  have hm9 : load_Make.f 3 4 9 = some ((makeM 3 4 9).map s35of) := rfl
  have hsame := same_f [⟨1, 0, ⟨#[100]⟩, ⟨#[114]⟩⟩, ⟨1, 1, ⟨#[100]⟩, ⟨#[114]⟩⟩] k (by simp; omega) (by decide)
  unfold pontoonlaw30_known.f
  rw [drawP, drawP, draw_0, draw_7, Option.bind_some, Option.bind_some, hm, Option.bind_some, next_0, Option.bind_some, if_pos rfl, if_pos rfl, Option.bind_some, if_pos rfl, if_pos rfl, if_pos rfl]
  have e : pontoonref27_Same.f k (([⟨1, 0, ⟨#[100]⟩, ⟨#[114]⟩⟩, ⟨1, 1, ⟨#[100]⟩, ⟨#[114]⟩⟩] : List OpL).map s35of) (([(⟨1, 0, (⟨#[100]⟩ : ByteArray), (⟨#[114]⟩ : ByteArray)⟩ : S35), (⟨1, 1, (⟨#[100]⟩ : ByteArray), (⟨#[114]⟩ : ByteArray)⟩ : S35)] : List (S35))) = some true := hsame
  rw [e, Option.bind_some, if_pos rfl, hm0, Option.bind_some, if_pos (by rfl), hm9, Option.bind_some, if_pos (by rw [List.length_map, make_13]; rfl), text_f, Option.bind_some, show_1, ByteArray.toList_eq]
  rfl
theorem LoadDraws : pontoonlaw30_LoadDraws.Pure := by
  intro a0 a1 _ h1
  have hb := wf_u16 h1
  refine ⟨3, ?_⟩
  have hw : wrap64 (1 + wrap64 a1) = 1 + a1 := by rw [IntWalk.wrap64_in a1 (by omega), IntWalk.wrap64_in _ (by omega)]
  have hd := dr_bound a0 (n := 1 + a1) (by omega)
  have hg : drawG a0 (1 + a1) = (dr a0 (1 + a1), nx a0) := if_pos ⟨by omega, by omega⟩
  unfold pontoonlaw30_LoadDraws.f
  rw [hw, drawP, hg, Option.bind_some, Option.bind_some]
  dsimp only
  rw [if_pos hd.1, if_pos hd.2, if_pos rfl, if_pos rfl, show load_Next.f a0 = some (nx a0) from rfl, Option.bind_some, if_pos rfl, known_f 3 (by decide)]
  rfl
theorem LoadMakes : pontoonlaw30_LoadMakes.Pure := by
  intro a0 a1 a2 _ _ _
  refine ⟨1201, ?_⟩
  have gen : pontoonlaw30_LoadMakes.j0 1201 a0 a1 a2 false = some true := by
    have hsame := same_f (makeM a0 a1 a2) 1200 (by have := Pr.make_len a0 a1 a2; omega) (by have := Pr.make_len a0 a1 a2; omega)
    simp only [pontoonlaw30_LoadMakes.j0]
    rw [if_neg (by simp), drawP, rdrawP, Option.bind_some, Option.bind_some, show load_Next.f a0 = some (nx a0) from rfl, show pontoonref30_Next.f a0 = some (nx a0) from rfl, Option.bind_some, Option.bind_some, if_pos rfl, if_pos rfl, if_pos rfl, show load_Make.f a0 a1 a2 = some ((makeM a0 a1 a2).map s35of) from rfl, show pontoonref30_Make.f a0 a1 a2 = some ((makeM a0 a1 a2).map s35of) from rfl, Option.bind_some, Option.bind_some, hsame, Option.bind_some, if_pos rfl, text_f, rtext_f a0 a1 a2 1200 (by decide), Option.bind_some, Option.bind_some, if_pos rfl, known_f 1200 (by decide)]
    rfl
  unfold pontoonlaw30_LoadMakes.f
  by_cases h3 : a2 > 300
  · rw [if_pos h3]
    by_cases h4 : a2 ≤ 1000
    · rw [decide_eq_true h4]
      simp only [pontoonlaw30_LoadMakes.j0]
      rw [if_pos trivial, known_f 1200 (by decide)]
      rfl
    · rw [decide_eq_false h4]; exact gen
  · rw [if_neg h3]; exact gen
end Go.Proofs.Ytmgcmheiabmajab
