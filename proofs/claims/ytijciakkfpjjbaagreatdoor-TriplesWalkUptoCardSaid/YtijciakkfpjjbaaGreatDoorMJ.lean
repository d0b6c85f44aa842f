/- The walk of TriplesWalk, step by step, plain. -/
import Derived.Test.YtijciakkfpjjbaaGreatDoorMI
import Derived.Test.YtijciakkfpjjbaaGreatDoorMH
namespace Go.Proofs.YtijciakkfpjjbaaGreatDoor
open Go

/-- The first values of a triple on a way. -/
def wv (w : Way) (t : Trip) (d : Nat) : List Val := [t.get (w.get 0), t.get (w.get 1), t.get (w.get 2)].take d
section
variable {T K : List Trip} {w : Way}
theorem wv_len (t : Trip) {d : Nat} (hd : d ≤ 3) : (wv w t d).length = d := by
 unfold wv
 rw [List.length_take]
 simp only [List.length_cons, List.length_nil]
 omega
theorem wv_at (t : Trip) {d e : Nat} (he : e < d) (hd : d ≤ 3) : (wv w t d)[e]? = some (t.get (w.get e)) := by
 unfold wv
 rw [List.getElem?_take_of_lt he]
 rcases (show e = 0 ∨ e = 1 ∨ e = 2 by omega) with rfl | rfl | rfl <;> rfl
theorem wv_succ (t : Trip) {d : Nat} (hd : d < 3) : wv w t (d + 1) = wv w t d ++ [t.get (w.get d)] := by
 rcases (show d = 0 ∨ d = 1 ∨ d = 2 by omega) with rfl | rfl | rfl <;> rfl
theorem begins_wv {t u : Trip} {d : Nat} (hd : d ≤ 3) : Begins w (wv w t d) u ↔ ∀ e, e < d → u.get (w.get e) = t.get (w.get e) := by
 constructor
 ·intro h e he
  exact h e _ (wv_at t he hd)
 ·intro h e v hv
  have hl : e < d := by
   have := (List.getElem?_eq_some_iff.1 hv).1
   rwa [wv_len t hd] at this
  rw [wv_at t hl hd] at hv
  injection hv with hv
  rw [← hv]
  exact h e hl
theorem begins_self (t : Trip) {d : Nat} (hd : d ≤ 3) : Begins w (wv w t d) t := (begins_wv hd).2 fun _ _ => rfl
theorem begins_less {t u : Trip} {d : Nat} (hd : d < 3) (h : Begins w (wv w t (d + 1)) u) : Begins w (wv w t d) u := (begins_wv (by omega)).2 fun e he => (begins_wv (by omega)).1 h e (by omega)
theorem wv_same {t u : Trip} {d : Nat} (hd : d ≤ 3) (h : Begins w (wv w t d) u) : wv w u d = wv w t d := by
 refine List.ext_getElem? fun e => ?_
 by_cases he : e < d
 ·rw [wv_at u he hd, wv_at t he hd, (begins_wv hd).1 h e he]
 ·rw [List.getElem?_eq_none (by rw [wv_len u hd]; omega), List.getElem?_eq_none (by rw [wv_len t hd]; omega)]
/-- What lies between two that begin alike begins so. -/
theorem between (hK : InWay T K w) {x : Trip} {d : Nat} (hd : d ≤ 3) {n m r : Nat} {s t u : Trip} (hs : K[n]? = some s) (ht : K[m]? = some t) (hu : K[r]? = some u) (h1 : n ≤ m) (h2 : m ≤ r)
    (bs : Begins w (wv w x d) s) (bu : Begins w (wv w x d) u) : Begins w (wv w x d) t := by
 rw [begins_wv hd] at bs bu ⊢
 intro e
 induction e using Nat.strongRecOn with
 | _ e ih =>
  intro he
  have a1 := along_part (d := e) (by omega) (hK.le hs ht h1) fun e' h' => by rw [bs e' (by omega), ih e' h' (by omega)]; exact ordV_refl _
  have a2 := along_part (d := e) (by omega) (hK.le ht hu h2) fun e' h' => by rw [bu e' (by omega), ih e' h' (by omega)]; exact ordV_refl _
  rw [bs e he] at a1
  rw [bu e he] at a2
  have h3 := ordV_anti (t.get (w.get e)) (x.get (w.get e))
  have hx : ScalV (x.get (w.get e)) := by rw [← bs e he]; exact (hK.scal' hs).get _
  exact ordV_eq ((hK.scal' ht).get _) hx (by omega)
/-- Where a block begins, Open goes to its first value. -/
theorem keys_first (hK : InWay T K w) {d m : Nat} {t : Trip} (hd : d < 3) (ht : K[m]? = some t) (hf : ∀ n u, n < m → K[n]? = some u → ¬ Begins w (wv w t d) u) : ∃ r, keysA T w (wv w t d) = t.get (w.get d) :: r := by
 obtain ⟨kr, km⟩ := keysA_is (w := w) hK.scal (wv w t d)
 have hl := wv_len (w := w) t (d := d) (by omega)
 have hmem := (km (t.get (w.get d))).2 ⟨t, (hK.mem t).1 (List.mem_of_getElem? ht), begins_self t (by omega), by rw [hl]⟩
 cases hk : keysA T w (wv w t d) with
 | nil => rw [hk] at hmem; cases hmem
 | cons x r =>
  rw [hk] at hmem kr
  rcases List.mem_cons.1 hmem with e | e
  ·exact ⟨r, by rw [e]⟩
  ·exfalso
   have h1 := (List.pairwise_cons.1 kr).1 _ e
   obtain ⟨u, hu1, hu2, hu3⟩ := (km x).1 (by rw [hk]; exact List.mem_cons_self)
   obtain ⟨n, hn⟩ := List.getElem?_of_mem ((hK.mem u).2 hu1)
   have hnm : m ≤ n := Nat.le_of_not_lt fun h => hf n u h hn hu2
   have h2 := hK.mono (pre := wv w t d) (by omega) ht hn hnm (begins_self t (by omega)) hu2
   rw [hu3, hl] at h2
   have := ordV_anti x (t.get (w.get d))
   omega
/-- Where a block ends, Next goes to the next value of the block around it; or there is none. -/
theorem keys_next (hK : InWay T K w) {d m : Nat} {s : Trip} (hd : d < 3) (hs : K[m]? = some s) (he : ∀ n u, m < n → K[n]? = some u → ¬ Begins w (wv w s (d + 1)) u) :
    (∀ t, K[m + 1]? = some t → Begins w (wv w s d) t → (keysA T w (wv w s d)).find? (toF true (s.get (w.get d)) (s.get (w.get d))) = some (t.get (w.get d)) ∧ ordV (s.get (w.get d)) (t.get (w.get d)) < 0) ∧
    ((∀ t, K[m + 1]? = some t → ¬ Begins w (wv w s d) t) → (keysA T w (wv w s d)).find? (toF true (s.get (w.get d)) (s.get (w.get d))) = none) := by
 obtain ⟨kr, km⟩ := keysA_is (w := w) hK.scal (wv w s d)
 have hl := wv_len (w := w) s (d := d) (by omega)
 rw [hl] at km
 have hbs := begins_self (w := w) s (d := d) (by omega)
 have late : ∀ n u, K[n]? = some u → Begins w (wv w s d) u → 0 < ordV (u.get (w.get d)) (s.get (w.get d)) → m < n := fun n u hn hu h0 => by
  refine Nat.lt_of_not_le fun hnm => ?_
  have := hK.mono (pre := wv w s d) (by omega) hn hs hnm hu hbs
  rw [hl] at this
  omega
 constructor
 ·intro t ht hbt
  have hlt : ordV (s.get (w.get d)) (t.get (w.get d)) < 0 := by
   have h1 := hK.mono (pre := wv w s d) (by omega) hs ht (by omega) hbs hbt
   rw [hl] at h1
   rcases Int.lt_or_eq_of_le h1 with h | h
   ·exact h
   ·exfalso
    have e := ordV_eq ((hK.scal' hs).get _) ((hK.scal' ht).get _) h
    refine he (m + 1) t (by omega) ht ?_
    rw [wv_succ s hd]
    exact Begins.snoc.2 ⟨hbt, by rw [hl]; exact e.symm⟩
  refine ⟨?_, hlt⟩
  have hmem := (km (t.get (w.get d))).2 ⟨t, (hK.mem t).1 (List.mem_of_getElem? ht), hbt, rfl⟩
  have hft : toF true (s.get (w.get d)) (s.get (w.get d)) (t.get (w.get d)) = true := toF_next.2 (by have := ordV_anti (s.get (w.get d)) (t.get (w.get d)); omega)
  cases hn : (keysA T w (wv w s d)).find? (toF true (s.get (w.get d)) (s.get (w.get d))) with
  | none => exact absurd hft (List.find?_eq_none.1 hn _ hmem)
  | some y =>
   have h1 := rise_find kr hn hmem hft
   obtain ⟨u, hu1, hu2, hu3⟩ := (km y).1 (List.mem_of_find?_eq_some hn)
   obtain ⟨n, hn'⟩ := List.getElem?_of_mem ((hK.mem u).2 hu1)
   have h2 := toF_next.1 (List.find?_some hn)
   rw [← hu3] at h2
   have h3 := late n u hn' hu2 h2
   have h4 := hK.mono (pre := wv w s d) (by omega) ht hn' (by omega) hbt hu2
   rw [hl, hu3] at h4
   have := ordV_anti y (t.get (w.get d))
   have hy : ScalV y := by rw [← hu3]; exact (hK.scal' hn').get _
   rw [ordV_eq (a := y) (b := t.get (w.get d)) hy ((hK.scal' ht).get _) (by omega)]
 ·intro hno
  refine List.find?_eq_none.2 fun y hy hf => ?_
  obtain ⟨u, hu1, hu2, hu3⟩ := (km y).1 hy
  obtain ⟨n, hn⟩ := List.getElem?_of_mem ((hK.mem u).2 hu1)
  have h2 := toF_next.1 hf
  rw [← hu3] at h2
  have h3 := late n u hn hu2 h2
  have hb : m + 1 < K.length := by have := (List.getElem?_eq_some_iff.1 hn).1; omega
  have ht := List.getElem?_eq_getElem hb
  exact hno _ ht (between hK (by omega) hs ht hn (by omega) (by omega) hbs hu2)
/-- The walk stands where a block begins; where one ends. -/
def DnA (K : List Trip) (w : Way) (m d : Nat) (c : CurA) : Prop := ∃ t, K[m]? = some t ∧ d < 3 ∧ c = ⟨wv w t d, false⟩ ∧ ∀ n u, n < m → K[n]? = some u → ¬ Begins w (wv w t d) u
def UpA (K : List Trip) (w : Way) (m d : Nat) (c : CurA) : Prop := ∃ s, K[m]? = some s ∧ d < 3 ∧ c = ⟨wv w s (d + 1), false⟩ ∧ ∀ n u, m < n → K[n]? = some u → ¬ Begins w (wv w s (d + 1)) u
theorem whole_apart (hK : InWay T K w) {n m : Nat} {s t : Trip} (hs : K[n]? = some s) (ht : K[m]? = some t) (hnm : n < m) : ¬ Begins w (wv w s 3) t ∧ ¬ Begins w (wv w t 3) s := by
 have hlt : along w s t < 0 := by
  obtain ⟨ln, en⟩ := List.getElem?_eq_some_iff.1 hs
  obtain ⟨lm, em⟩ := List.getElem?_eq_some_iff.1 ht
  have := List.pairwise_iff_getElem.1 hK.rise n m ln lm hnm
  rwa [en, em] at this
 have h0 : ¬ ∀ e, e < 3 → ordV (s.get (w.get e)) (t.get (w.get e)) = 0 := fun h => by
  have := wget_ne3.1 h
  omega
 refine ⟨fun h => h0 fun e he => ?_, fun h => h0 fun e he => ?_⟩
 ·rw [(begins_wv (by omega)).1 h e he]
  exact ordV_refl _
 ·rw [(begins_wv (by omega)).1 h e he]
  exact ordV_refl _
theorem dn_start (hn : 0 < K.length) : DnA K w 0 0 ⟨[], false⟩ := ⟨K[0], List.getElem?_eq_getElem hn, by omega, rfl, fun n u h => absurd h (by omega)⟩
/-- Down: Open. -/
theorem dn_open (hK : InWay T K w) {m d : Nat} {c : CurA} (h : DnA K w m d c) : ∃ t, K[m]? = some t ∧ c = ⟨wv w t d, false⟩ ∧ openA T w c = (⟨wv w t (d + 1), false⟩, true) ∧ (d < 2 → DnA K w m (d + 1) ⟨wv w t (d + 1), false⟩) ∧ (d = 2 → UpA K w m 2 ⟨wv w t (d + 1), false⟩) := by
 obtain ⟨t, ht, hd, rfl, hf⟩ := h
 obtain ⟨r, hr⟩ := keys_first hK hd ht hf
 refine ⟨t, ht, rfl, ?_, fun h2 => ?_, fun h2 => ?_⟩
 ·unfold openA
  rw [if_neg (by
   rintro (h | h)
   ·have h : (wv w t d).length = 3 := h
    rw [wv_len t (by omega)] at h
    omega
   ·cases h), hr, wv_succ t hd]
 ·exact ⟨t, ht, by omega, rfl, fun n u hn hu hb => hf n u hn hu (begins_less hd hb)⟩
 ·subst h2
  exact ⟨t, ht, by omega, rfl, fun n u hn hu => (whole_apart hK ht hu hn).1⟩
/-- On: Next; or up again. -/
theorem up_next (hK : InWay T K w) {m d : Nat} {c : CurA} (h : UpA K w m d c) : ∃ s, K[m]? = some s ∧ c = ⟨wv w s (d + 1), false⟩ ∧
    ((∃ t, K[m + 1]? = some t ∧ wv w t d = wv w s d ∧ nextA T w c = (⟨wv w t (d + 1), false⟩, true) ∧ ordV (s.get (w.get d)) (t.get (w.get d)) < 0 ∧ (d < 2 → DnA K w (m + 1) (d + 1) ⟨wv w t (d + 1), false⟩) ∧ (d = 2 → UpA K w (m + 1) 2 ⟨wv w t (d + 1), false⟩)) ∨
     (nextA T w c = (⟨wv w s (d + 1), true⟩, false) ∧ upA ⟨wv w s (d + 1), true⟩ = (⟨wv w s d, false⟩, true) ∧ (d = 0 → K.length = m + 1) ∧ ∀ e, d = e + 1 → UpA K w m e ⟨wv w s d, false⟩)) := by
 obtain ⟨s, hs, hd, rfl, he⟩ := h
 refine ⟨s, hs, rfl, ?_⟩
 obtain ⟨k1, k2⟩ := keys_next hK hd hs he
 by_cases ht : ∃ t, K[m + 1]? = some t ∧ Begins w (wv w s d) t
 ·obtain ⟨t, ht, hb⟩ := ht
  obtain ⟨h1, h2⟩ := k1 t ht hb
  have hsame := wv_same (by omega) hb
  refine .inl ⟨t, ht, hsame, ?_, h2, fun h3 => ?_, fun h3 => ?_⟩
  ·rw [wv_succ s hd, nextA_at, toA_at, h1, wv_succ t hd, hsame]
  ·refine ⟨t, ht, by omega, rfl, fun n u hn hu hbu => ?_⟩
   have hbs : Begins w (wv w t (d + 1)) s := by
    by_cases hnm : n = m
    ·subst hnm
     rw [hs] at hu
     injection hu with hu
     rwa [← hu] at hbu
    ·exact between hK (by omega) hu hs ht (by omega) (by omega) hbu (begins_self t (by omega))
   have := (begins_wv (by omega)).1 hbs d (by omega)
   rw [this, ordV_refl] at h2
   omega
  ·subst h3
   exact ⟨t, ht, by omega, rfl, fun n u hn hu => (whole_apart hK ht hu hn).1⟩
 ·have hno : ∀ t, K[m + 1]? = some t → ¬ Begins w (wv w s d) t := fun t ht2 hb => ht ⟨t, ht2, hb⟩
  refine .inr ⟨?_, ?_, fun h0 => ?_, fun e h0 => ?_⟩
  ·rw [wv_succ s hd, nextA_at, toA_at, k2 hno]
  ·unfold upA
   rw [wv_succ s hd, if_neg (by simp)]
   simp
  ·subst h0
   have := (List.getElem?_eq_some_iff.1 hs).1
   by_cases hl : m + 1 < K.length
   ·exact absurd (Begins.nil w _) (hno _ (List.getElem?_eq_getElem hl))
   ·omega
  ·subst h0
   refine ⟨s, hs, by omega, rfl, fun n u hn hu hbu => ?_⟩
   have hb : m + 1 < K.length := by have := (List.getElem?_eq_some_iff.1 hu).1; omega
   have ht2 := List.getElem?_eq_getElem hb
   exact hno _ ht2 (between hK (by omega) hs ht2 hu (by omega) (by omega) (begins_self s (by omega)) hbu)
end
end Go.Proofs.YtijciakkfpjjbaaGreatDoor
namespace Go.Proofs.YtijciakkfpjjbaaGreatDoor
open Go Go.RowKit Go.Maps

theorem infoTrs : (Tryz.prog.info? 41).map (fun i => (i.zero, i.size, i.bytes)) = some (some (.agg #[.int .i64 0, .bool false, .int .i64 0, .string ⟨#[]⟩, .string ⟨#[]⟩, .slice none 0 0, .int .i64 0, .bool false, .int .i64 0, .string ⟨#[]⟩, .string ⟨#[]⟩, .slice none 0 0, .int .i64 0, .bool false, .int .i64 0, .string ⟨#[]⟩, .string ⟨#[]⟩, .slice none 0 0]), 18, 240) := by kernel_rfl
/-- One triple more is appended to a row of one's own. -/
theorem wp_app_L {op : Oper} {a : Act} {K : Act → World → Prop} {Q : Exit → Act → World → Prop} (s x : Operand) (ho : op.op = .call { callee := .builtin .append, args := #[s, x], argTypes := #[22, 22] })
    {wr : World} {F : Nat → Prop} {L : List Trip} {S : Value} {t : Trip} {c : Array Value} {n : Nat} (hS : a.eval s = S) (hown : SOwn 41 18 TrS wr F L S) (hL : L.length = n) (hx : a.eval x = .slice (some ⟨wr.heap.size, 0, none⟩) 1 1) (hc : ∀ w F, TrS w F t c) (hlen : n ≤ 1000000) (hF : ∀ b, F b → b < wr.heap.size)
    (h : ∀ g cap w', SOwn 41 18 TrS w' (fun b => F b ∨ b = g) (L ++ [t]) (.slice (some ⟨g, 0, none⟩) (n + 1) cap) → wr.grownBy w' S.ownBlock → (S.ownBlock = some g ∨ wr.heap.size ≤ g) → g < w'.heap.size → K (a.put op.dst (.slice (some ⟨g, 0, none⟩) (n + 1) cap)) w') :
    op.wp Tryz.prog a (wr.alloc (.cells c 41)) K Q := by
 subst hL
 obtain ⟨i0, hi, hz0, hz1, hz2⟩ := info_parts infoTrs
 obtain ⟨cs, hrow, h6, hFw, hr⟩ := hown
 have hc18 : c.size = 18 := by obtain ⟨_, _, ss, _, e⟩ := hc wr F; rw [e]; rfl
 have hc1 : ∀ u ∈ c.toList, u.oneCell' = true := by
  obtain ⟨_, _, ss, hs, e⟩ := hc wr F
  rw [e]
  exact cellsT_one t ss fun q hq => by obtain ⟨A, cp, e⟩ := hs q hq; exact ⟨A, 0, cp, e⟩
 refine wp_append_lies _ s x _ ho 0 41 i0 _ 18 240 Tryz.underlying22 hi hz0 hz1 hz2 rfl (by decide) S L.length (flatC cs L.length) hS (hrow.alloc _) ⟨wr.heap.size, 0, none⟩ 1 1 c.toList hx (by rw [Array.length_toList, hc18]) (World.news_of_block (heap_alloc_new wr _)) hc1 (by omega) (by unfold maxLen; omega) (by omega) (Nat.zero_le _) (wr.heap.size + 1) (by simp) (fun g cap w' h1 h2 h3 h4 => ?_)
 have hg := grown_after h2
 have hl : S.ownBlock = some g ∨ wr.heap.size ≤ g := h3.imp id (fun e => by rw [e]; omega)
 have hsn := SOwn.snoc (x := t) (c := c) (G := fun _ => False) TrS.good ⟨cs, hrow, h6, hFw, hr⟩ (hc _ _) hc18 (fun b hb => hb.elim) hF (fun b hb => hb.elim) (fun cs' h' => by rw [own_inj h' hrow]; exact h1) hg hl
 exact h g cap w' (hsn.mono TrS.good fun b hb => by rcases hb with hb | hb | hb; exact .inl hb; exact hb.elim; exact .inr hb) hg hl h4
theorem bs1_list (x0 x1 x2 x3 x4 x5 x6 x7 x8 x9 x10 x11 x12 x13 x14 x15 x16 x17 : Value) (w : World) : (Instr.buildSlice 22 1 #[(0, .agg #[x0, x1, x2, x3, x4, x5, x6, x7, x8, x9, x10, x11, x12, x13, x14, x15, x16, x17])]).run Tryz.prog w = .ok (.slice (some ⟨w.heap.size, 0, none⟩) 1 1) (w.alloc (.cells #[x0, x1, x2, x3, x4, x5, x6, x7, x8, x9, x10, x11, x12, x13, x14, x15, x16, x17] 41)) := by kernel_rfl
theorem bs1_run (c : Array Value) (hc : c.size = 18) (w : World) : (Instr.buildSlice 22 1 #[(0, .agg c)]).run Tryz.prog w = .ok (.slice (some ⟨w.heap.size, 0, none⟩) 1 1) (w.alloc (.cells c 41)) := by
 obtain ⟨l⟩ := c
 match l, hc with
 | [x0, x1, x2, x3, x4, x5, x6, x7, x8, x9, x10, x11, x12, x13, x14, x15, x16, x17], _ => exact bs1_list x0 x1 x2 x3 x4 x5 x6 x7 x8 x9 x10 x11 x12 x13 x14 x15 x16 x17 w
end Go.Proofs.YtijciakkfpjjbaaGreatDoor
namespace Go.Proofs.YtijciakkfpjjbaaGreatDoor
open Go

theorem set_get (t : Trip) (v : Val) {p e : Nat} (hp : p < 3) (he : e < 3) : (t.set p v).get e = if e = p then v else t.get e := by
 rcases (show p = 0 ∨ p = 1 ∨ p = 2 by omega) with rfl | rfl | rfl <;> rcases (show e = 0 ∨ e = 1 ∨ e = 2 by omega) with rfl | rfl | rfl <;> rfl
/-- Going down; going on: what was met (G), the values of the way (wt). -/
def WkA (K : List Trip) (w : Way) (m d : Nat) (c : CurA) (wt : Trip) (G : List Trip) : Prop := DnA K w m d c ∧ (∀ t, K[m]? = some t → ∀ e, e < d → wt.get e = t.get (w.get e)) ∧ G = K.take m
def WkB (K : List Trip) (w : Way) (m d : Nat) (c : CurA) (wt : Trip) (G : List Trip) : Prop := UpA K w m d c ∧ (∀ t, K[m]? = some t → ∀ e, e < d + 1 → wt.get e = t.get (w.get e)) ∧ G = K.take (m + 1)
section
variable {T K : List Trip} {w : Way} {m d : Nat} {c : CurA} {wt : Trip} {G : List Trip}
theorem wv_key (t : Trip) {d : Nat} (hd : d < 3) : keyA ⟨wv w t (d + 1), false⟩ = some (t.get (w.get d)) := by rw [wv_succ t hd, keyA_at]
theorem set_way {t : Trip} {d : Nat} (hd : d < 3) (h : ∀ e, e < d → wt.get e = t.get (w.get e)) : ∀ e, e < d + 1 → (wt.set d (t.get (w.get d))).get e = t.get (w.get e) := fun e he => by
 rw [set_get _ _ hd (by omega)]
 by_cases e0 : e = d
 ·rw [if_pos e0, e0]
 ·rw [if_neg e0, h e (by omega)]
theorem WkA.start (hn : 0 < K.length) (wt : Trip) : WkA K w 0 0 ⟨[], false⟩ wt [] := ⟨dn_start hn, fun _ _ e he => absurd he (by omega), rfl⟩
theorem WkA.len (h : WkA K w m d c wt G) : c.way.length = d ∧ d < 3 ∧ m < K.length := by
 obtain ⟨⟨t, ht, hd, rfl, _⟩, _, _⟩ := h
 exact ⟨wv_len t (by omega), hd, (List.getElem?_eq_some_iff.1 ht).1⟩
theorem WkB.len (h : WkB K w m d c wt G) : c.way.length = d + 1 ∧ d < 3 ∧ m < K.length := by
 obtain ⟨⟨t, ht, hd, rfl, _⟩, _, _⟩ := h
 exact ⟨wv_len t (by omega), hd, (List.getElem?_eq_some_iff.1 ht).1⟩
/-- What a triple that was met is put together of. -/
def Full (w : Way) (t wt : Trip) : Prop := ∀ e, e < 3 → wt.get e = t.get (w.get e)
theorem WkA.step (hK : InWay T K w) (h : WkA K w m d c wt G) : ∃ v c', openA T w c = (c', true) ∧ keyA c' = some v ∧ c'.way.length = d + 1 ∧ (∃ pre, v ∈ keysA T w pre) ∧
    (d < 2 → WkA K w m (d + 1) c' (wt.set d v) G) ∧ (d = 2 → ∃ t, t ∈ K ∧ Full w t (wt.set d v) ∧ WkB K w m 2 c' (wt.set d v) (G ++ [t])) := by
 obtain ⟨h1, h2, rfl⟩ := h
 have hd : d < 3 := by obtain ⟨_, _, hd, _⟩ := h1; exact hd
 obtain ⟨t, ht, rfl, ho, hdn, hup⟩ := dn_open hK h1
 have hs := set_way hd (h2 t ht)
 refine ⟨_, _, ho, wv_key t hd, wv_len t (by omega), ⟨wv w t d, ?_⟩, fun h => ⟨hdn h, fun u hu => ?_, rfl⟩, fun h => ⟨t, List.mem_of_getElem? ht, ?_, hup h, fun u hu => ?_, ?_⟩⟩
 ·exact ((keysA_is (w := w) hK.scal _).2 _).2 ⟨t, (hK.mem t).1 (List.mem_of_getElem? ht), begins_self t (by omega), by rw [wv_len t (by omega)]⟩
 ·rw [ht] at hu
  injection hu with hu
  subst hu
  exact hs
 ·subst h
  exact hs
 ·rw [ht] at hu
  injection hu with hu
  subst hu
  subst h
  exact hs
 ·rw [List.take_add_one, ht]
  rfl
theorem WkB.step (hK : InWay T K w) (h : WkB K w m d c wt G) :
    (∃ v c', nextA T w c = (c', true) ∧ keyA c' = some v ∧ c'.way.length = d + 1 ∧ (∃ pre, v ∈ keysA T w pre) ∧ ordV (wt.get d) v < 0 ∧
     (d < 2 → WkA K w (m + 1) (d + 1) c' (wt.set d v) G) ∧ (d = 2 → ∃ t, t ∈ K ∧ Full w t (wt.set d v) ∧ WkB K w (m + 1) 2 c' (wt.set d v) (G ++ [t]))) ∨
    (∃ c' c'', nextA T w c = (c', false) ∧ upA c' = (c'', true) ∧ c''.way.length = d ∧ (d = 0 → G = K) ∧ ∀ e, d = e + 1 → WkB K w m e c'' wt G) := by
 obtain ⟨h1, h2, rfl⟩ := h
 have hd : d < 3 := by obtain ⟨_, _, hd, _⟩ := h1; exact hd
 obtain ⟨s, hs, rfl, hor⟩ := up_next hK h1
 have hsw := h2 s hs
 rcases hor with ⟨t, ht, hsame, hn, hlt, hdn, hup⟩ | ⟨hn, hu, h0, he⟩
 ·have hst : ∀ e, e < d → wt.get e = t.get (w.get e) := fun e he => by
    rw [hsw e (by omega)]
    have a := wv_at (w := w) s he (by omega)
    have b := wv_at (w := w) t he (by omega)
    rw [hsame, a] at b
    injection b
  have hset := set_way hd hst
  refine .inl ⟨_, _, hn, wv_key t hd, wv_len t (by omega), ⟨wv w t d, ?_⟩, by rw [hsw d (by omega)]; exact hlt, fun h => ⟨hdn h, fun u hu => ?_, rfl⟩, fun h => ⟨t, List.mem_of_getElem? ht, ?_, hup h, fun u hu => ?_, ?_⟩⟩
  ·exact ((keysA_is (w := w) hK.scal _).2 _).2 ⟨t, (hK.mem t).1 (List.mem_of_getElem? ht), begins_self t (by omega), by rw [wv_len t (by omega)]⟩
  ·rw [ht] at hu
   injection hu with hu
   subst hu
   exact hset
  ·subst h
   exact hset
  ·rw [ht] at hu
   injection hu with hu
   subst hu
   subst h
   exact hset
  ·rw [List.take_add_one (i := m + 1), ht]
   rfl
 ·refine .inr ⟨_, _, hn, hu, wv_len s (by omega), fun h => ?_, fun e h => ⟨he e h, fun u hu => ?_, rfl⟩⟩
  ·rw [← h0 h, List.take_length]
  ·rw [hs] at hu
   injection hu with hu
   subst hu
   exact fun e2 h2 => hsw e2 (by omega)
/-- How far the walk is. -/
def posA (m d : Nat) : Nat := 8 * m + d
def posB (m d : Nat) : Nat := 8 * m + 5 - d
end
end Go.Proofs.YtijciakkfpjjbaaGreatDoor
