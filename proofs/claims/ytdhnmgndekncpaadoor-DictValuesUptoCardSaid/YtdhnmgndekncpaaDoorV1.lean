/- How great a row of values is: Size. -/
import Derived.Test.YtdhnmgndekncpaaDoorV0
import Derived.Test.YtdhnmgndekncpaaDoorProg
import Derived.WalkKit
import Derived.WalkSpells
import Derived.Lib.Hide
import Derived.Deep.QuietTactic
import Derived.BigQuiet
import Derived.IntWalk
import Derived.Outline
namespace Go.Proofs.YtdhnmgndekncpaaDoor
open Go Go.RowKit

theorem name_itV {α : Type} (a : α) : ∃ x, Hid (a = x) := ⟨a, Lib.hid rfl⟩
theorem take_oneMore {α : Type} {l : List α} {k : Nat} {y : α} (h : l[k]? = some y) : l.take (k + 1) = l.take k ++ [y] := by
  rw [List.take_add_one, h]; rfl
/-- A row of values at a place, as the walk asks for its cells. -/
theorem LRd.cellsAt {w : World} {F : Nat → Prop} {l : List Val} {A : Option Addr} {n : Nat} (h : LRd w F l A n) {i : Nat} {x : Val} (hx : l[i]? = some x) :
    ∃ ad s, A = some ad ∧ F ad.block ∧ (∃ B cap, s = .slice B x.list.length cap ∧ x.list.length ≤ cap ∧ LRd w F x.list B x.list.length) ∧ VRd w F x (.agg (cellsV x s)) ∧
      w.cell? (ad.add (i * 6)) = some (.int .i64 x.kind) ∧ w.cell? ⟨(ad.add (i * 6)).block, (ad.add (i * 6)).off + 1, none⟩ = some (.bool x.truth) ∧ w.cell? ⟨(ad.add (i * 6)).block, (ad.add (i * 6)).off + 2, none⟩ = some (.int .i64 x.num) ∧
      w.cell? ⟨(ad.add (i * 6)).block, (ad.add (i * 6)).off + 3, none⟩ = some (.string x.text) ∧ w.cell? ⟨(ad.add (i * 6)).block, (ad.add (i * 6)).off + 4, none⟩ = some (.string x.extra) ∧ w.cell? ⟨(ad.add (i * 6)).block, (ad.add (i * 6)).off + 5, none⟩ = some s := by
  obtain ⟨ad, s, e, hF, hs, hc, hv⟩ := h.at_ hx
  have c0 := hc 0 (by omega)
  have c1 := hc 1 (by omega)
  have c2 := hc 2 (by omega)
  have c3 := hc 3 (by omega)
  have c4 := hc 4 (by omega)
  have c5 := hc 5 (by omega)
  rw [← add_of_add] at c1 c2 c3 c4 c5
  exact ⟨ad, s, e, hF, hs, hv, c0, c1, c2, c3, c4, c5⟩

theorem len_le_size (l : List Val) : l.length ≤ sizeL l := by
  induction l with
  | nil => simp
  | cons v r ih =>
    simp only [sizeL, List.length_cons]
    have : 1 ≤ sizeV v := by cases v; simp only [sizeV]; omega
    omega
/-- A number is told; the world but for draws as it was. -/
def ToldN (n : Nat) (w : World) (e : Ending) (w' : World) : Prop := e = .returned (.int .i64 (n : Int)) ∧ ∃ m, w' = w.drewN m

set_option maxRecDepth 100000 in
set_option maxHeartbeats 1000000 in
theorem size_any (N : Nat) : ∀ (l : List Val) (_ : sizeL l < N) (_ : sizeL l ≤ 1000000000000) (F : Nat → Prop) (A : Option Addr) (n cap : Nat) (w : World) (_ : LRd w F l A n),
    Calls Tryd.prog 44 #[.slice A n cap] w (ToldN (sizeL l) w) := by
  induction N with
  | zero => exact fun _ h => absurd h (Nat.not_lt_zero _)
  | succ N ih =>
    intro l hN hs F A n cap w h
    have HH := Lib.hid h
    have IH := Lib.hid ih
    have hl : n = l.length := h.1
    have hll := len_le_size l
    clear h ih
    go_enter Tryd.func44, Tryd.ntmps44
    go_wp2_with fail
    go_loopw [3, 4] (fun s3 s4 wr => ∃ k m : Nat, k ≤ n ∧ s3 = .int .i64 ((sizeL (l.take k) : Nat) : Int) ∧ s4 = .int .i64 (k : Nat) ∧ wr = w.drewN m) (fun _ s4 _ => n - (intOf s4).toNat)
    case atStart => exact ⟨0, 0, by omega, by simp [sizeL], rfl, rfl⟩
    case round =>
      obtain ⟨k, m, hk, rfl, rfl, hw⟩ := hrel
      have HR := Lib.hid (show LRd wr F l A n from by rw [hw]; exact HH.out.drewN m)
      have HW := Lib.hid hw
      clear hw
      by_cases hlt : k < n
      · obtain ⟨x, hx⟩ : ∃ x, l[k]? = some x := ⟨l[k]'(by omega), List.getElem?_eq_getElem _⟩
        obtain ⟨ad, s, rfl, hF, ⟨B, capx, rfl, hcapx, hlx⟩, _, c0, c1, c2, c3, c4, c5⟩ := HR.out.cellsAt hx
        have htk : sizeL (l.take (k + 1)) = sizeL (l.take k) + sizeV x := by rw [take_oneMore hx, sizeL_append]; simp [sizeL]
        have hle := sizeL_take l (k + 1)
        have hxl := sizeL_list x
        have hxm := sizeV_mem (List.mem_of_getElem? hx)
        have hsv : sizeV x = 1 + x.text.size / 64 + x.extra.size / 64 + sizeL x.list := by cases x; simp [sizeV, Val.text, Val.extra, Val.list]
        obtain ⟨S, HS⟩ := name_itV (sizeL (l.take k))
        obtain ⟨a, Ha⟩ := name_itV (x.text.size / 64)
        obtain ⟨b, Hb⟩ := name_itV (x.extra.size / 64)
        obtain ⟨r, Hr⟩ := name_itV (sizeL x.list)
        have HRS := Lib.hid (show sizeL (l.take (k + 1)) = S + 1 + a + b + r by rw [htk, hsv, HS.out, Ha.out, Hb.out, Hr.out]; omega)
        have hbd : S + 1 + a + b + r ≤ 1000000000000 := by have := HRS.out; omega
        have q1 : (x.text.size : Int).tdiv 64 = (a : Int) := by rw [← Ha.out, Int.tdiv_eq_ediv_of_nonneg (by omega)]; omega
        have q2 : (x.extra.size : Int).tdiv 64 = (b : Int) := by rw [← Hb.out, Int.tdiv_eq_ediv_of_nonneg (by omega)]; omega
        have q3 : (x.text.size : Int) / 64 = (a : Int) := by rw [← Ha.out]; omega
        have q4 : (x.extra.size : Int) / 64 = (b : Int) := by rw [← Hb.out]; omega
        have HIH := Lib.hid (IH.out x.list (by omega) (by omega) F B x.list.length capx)
        have HLX := Lib.hid hlx
        rw [Hr.out] at HIH
        have w1 : IntKind.i64.wrap (S + 1 : Int) = S + 1 := IntWalk.i64_in _ (by omega)
        have w2 : IntKind.i64.wrap (a : Int) = a := IntWalk.i64_in _ (by omega)
        have w3 : IntKind.i64.wrap (b : Int) = b := IntWalk.i64_in _ (by omega)
        have w4 : IntKind.i64.wrap (S + 1 + a : Int) = S + 1 + a := IntWalk.i64_in _ (by omega)
        have w5 : IntKind.i64.wrap (S + 1 + a + b : Int) = S + 1 + a + b := IntWalk.i64_in _ (by omega)
        have w6 : IntKind.i64.wrap (S + 1 + a + b + r : Int) = S + 1 + a + b + r := IntWalk.i64_in _ (by omega)
        have e1 : (0 : Int) ≤ k := by omega
        have e2 : (k : Int) < n := by omega
        rw [HS.out]
        have HX := Lib.hid hx
        clear hx htk hle hxl hxm hsv hlx hF Ha Hb
        go_wp2_with fail
        go_quiet ((go_at_call 44; exact Calls.quiet_of (HIH.out _ (HLX.out.drewN _))))
        go_wp2_with fail
        go_roundw
        case rel => exact ⟨k + 1, m + nq, by omega, by rw [HRS.out]; push_cast; rfl, by go_num, by rw [HW.out, World.drewN_drewN]⟩
        case measure => simp [intOf]; omega
      · have hke : k = n := by omega
        subst hke
        go_wp2_with fail
        go_ret
        exact ⟨by rw [List.take_of_length_le (by omega)]; rfl, m, HW.out⟩
end Go.Proofs.YtdhnmgndekncpaaDoor
