/- Walk of the law LexJoins. -/
import Derived.Test.YtaaomjpkgpjegaaG5
import Derived.Outline
namespace Go.Proofs.Ytaaomjpkgpjegaa
open Go Go.RowKit

theorem own_below {w w' : World} {base : Nat} {e : TypeId} {size : Nat} {v : Value} {n : Nat} {xs : List Value} (h : w.ownsRow base e size v n xs) (hb : Below w.heap.size w w') : w'.ownsRow base e size v n xs :=
  h.kept (below_grown hb none) (Classical.em _)

theorem far_blocks {a b : Option Nat} (h : ∀ k, a = some k → b = some k → False) : a = none ∨ a ≠ b := by
  cases a with
  | none => exact .inl rfl
  | some k => exact .inr fun e => h k rfl e.symm

set_option maxRecDepth 100000 in
set_option maxHeartbeats 2000000 in
theorem joins_any (A : Option Addr) (n cap : Nat) (lang : Int) (xs : List ByteArray) (w : World) (hr : Reads w w.heap.size 1 A n (strs xs)) (hn : n ≤ maxLen) (hx : ∀ s ∈ xs, s.size ≤ 140737488351232) :
    Calls Try.prog 7 #[.agg #[.slice A n cap, .int .i64 lang]] w fun e w' => e = .returned (.bool true) ∧ Below w.heap.size w w' := by
  unfold maxLen at hn
  have hX := Lib.hid hx
  clear hx
  have hbw : Below w.heap.size w (w.alloc (.cells #[.slice A n cap, .int .i64 lang] 24)) := (Below.refl _ _).alloc (Nat.le_refl _) _
  obtain ⟨W, HW⟩ := name_it (w.alloc (.cells #[.slice A n cap, .int .i64 lang] 24))
  have hp : Blk W w.heap.size 24 #[.slice A n cap, .int .i64 lang] := by rw [← HW.out]; exact Blk.new _ _ _
  have hrW : Reads W w.heap.size 1 A n (strs xs) := by rw [← HW.out]; exact hr.alloc (Nat.le_refl _) _
  have hWs : W.heap.size = w.heap.size + 1 := by rw [← HW.out]; simp
  rw [HW.out] at hbw
  have HWS := Lib.hid hWs
  clear hWs
  go_enter Try.func7, Try.ntmps7
  go_wp2
  rw [HW.out]
  go_loopw [3] (fun i wr => ∃ k : Nat, k ≤ n + 1 ∧ 1 ≤ k ∧ k ≤ 8 ∧ i = .int .i64 k ∧ Below W.heap.size W wr) (fun i _ => 8 - (intOf i).toNat)
  case atStart => exact ⟨1, by omega, by omega, by omega, rfl, Below.refl _ _⟩
  case round =>
    obtain ⟨k, hk, hk1, hk8, rfl, hb⟩ := hrel
    have hws := HWS.out
    have hpr := hp.below hb (by omega)
    have hrr := (hrW.below (hb.mono (by omega)))
    have p0 : wr.cell? ⟨w.heap.size, 0, none⟩ = some (.slice A n cap) := hpr.cell 0
    have p1 : wr.cell? ⟨w.heap.size, 1, none⟩ = some (.int .i64 lang) := hpr.cell 1
    have hsz := hb.size
    have hwl : w.heap.size < wr.heap.size := by omega
    clear hws
    by_cases hlt : k < n ∧ k < 8
    · obtain ⟨hkn, hk8'⟩ := hlt
      obtain ⟨kp, rfl⟩ : ∃ kp, k = kp + 1 := ⟨k - 1, by omega⟩
      obtain ⟨ad, a, rfl, hxs, hca⟩ := reads_str hrr (show kp < n by omega)
      obtain ⟨ad', b, hae, hxs', hcb⟩ := reads_str hrr hkn
      injection hae with hae
      subst hae
      have has := hX.out a (List.mem_of_getElem? hxs)
      have hbs := hX.out b (List.mem_of_getElem? hxs')
      clear hxs hxs'
      have hcb2 : wr.cell? ⟨ad.block, ad.off + (kp + 1), none⟩ = some (.string b) := hcb
      have hk0 : IntKind.i64.wrap (((kp + 1 : Nat) : Int) - 1) = kp := by
        rw [show ((kp + 1 : Nat) : Int) - 1 = kp by omega]
        exact IntWalk.i64_in _ (by omega)
      clear hcb
      go_wp2_with fail
      · go_roundw
        case rel => exact ⟨kp + 1 + 1, by omega, by omega, by omega, by go_num, hb⟩
        case measure => simp [intOf]; omega
      · have hs3 : a.size + b.size ≤ 3000 := by omega
        obtain ⟨C, HC⟩ := name_it (a ++ ⟨#[10]⟩ ++ b)
        have hadd1 : ∀ W : World, (Op.stringOp .add a ⟨#[10]⟩).run Try.prog W = .ok (.string (a ++ ⟨#[10]⟩)) W := fun W => run_string_add_sum W _ _ (by have : (⟨#[10]⟩ : ByteArray).size = 1 := rfl; omega)
        have hadd2 : ∀ W : World, (Op.stringOp .add (a ++ ⟨#[10]⟩) b).run Try.prog W = .ok (.string C) W := fun W => by rw [← HC.out]; exact run_string_add_sum W _ _ (by have : (⟨#[10]⟩ : ByteArray).size = 1 := rfl; rw [ByteArray.size_append]; omega)
        have HA := Lib.hid (show a.data.toList.length = a.size by simp)
        have HB := Lib.hid (show b.data.toList.length = b.size by simp)
        have HCL := Lib.hid (show C.data.toList = a.data.toList ++ 10 :: b.data.toList by rw [← HC.out]; simp)
        have HCS := Lib.hid (show C.size ≤ 16384 by
          rw [← HC.out, ByteArray.size_append, ByteArray.size_append]
          have : (⟨#[10]⟩ : ByteArray).size = 1 := rfl
          omega)
        have HP1 := Lib.hid (show ∀ W' : World, Below wr.heap.size wr W' → W'.cell? ⟨w.heap.size, 1, none⟩ = some (.int .i64 lang) from fun W' h => (h.cell (p := ⟨w.heap.size, 1, none⟩) hwl).trans p1)
        clear hk0 hcb2 hca
        cases hla : lexAll lang a.data.toList with
        | mk ta fa =>
          cases fa with
          | some x =>
            have HJ := Lib.hid (join_bad (b := b.data.toList) (show (lexAll lang a.data.toList).2 = some x by rw [hla]))
            refine (lex_no rfl hla (by omega) _).mono ?_
            rintro e w1 ⟨rfl, hb1⟩
            clear hla
            have q1 := HP1.out w1 hb1
            go_wp2_with fail
            refine (lex_some b lang (by omega) _).mono ?_
            rintro e w2 ⟨v2, r2, f2, rfl, hb2⟩
            have q2 := HP1.out w2 (hb1.trans (hb2.mono hb1.size))
            go_wp2_with fail
            cases hlc : lexAll lang C.data.toList with
            | mk tc fc =>
              have hfc : fc = some x := by
                have := HJ.out
                rw [← HCL.out, hlc] at this
                exact this
              subst hfc
              refine (lex_no rfl hlc HCS.out _).mono ?_
              rintro e w3 ⟨rfl, hb3⟩
              clear hlc
              go_wp2
              go_roundw
              case rel => exact ⟨kp + 1 + 1, by omega, by omega, by omega, by go_num, hb.trans (((hb1.trans (hb2.mono hb1.size)).trans (hb3.mono (Nat.le_trans hb1.size hb2.size))).mono hb.size)⟩
              case measure => simp [intOf]; omega
          | none =>
            have HJ := Lib.hid (join_ok (b := b.data.toList) (show (lexAll lang a.data.toList).2 = none by rw [hla]))
            refine (lex_ok rfl hla (by omega) _).mono ?_
            rintro e w1 ⟨v1, rfl, ho1, hb1⟩
            have hta := lexAll_count hla
            rw [HA.out] at hta
            have HTA := Lib.hid (show (lexAll lang a.data.toList).1 = ta by rw [hla])
            clear hla
            obtain ⟨na, HNA⟩ := name_it ta.length
            rw [HNA.out] at ho1 hta
            have HO1 := Lib.hid ho1
            clear ho1
            have q1 := HP1.out w1 hb1
            go_wp2_with fail
            cases hlb : lexAll lang b.data.toList with
            | mk tb fb =>
              cases fb with
              | some y =>
                have hy := lexAll_fault hlb
                rw [HB.out] at hy
                obtain ⟨z, HZ⟩ := name_it (y + (a.data.toList.length + 1))
                have t1 : ((z : Int) != (a.size : Int) + 1 + y) = false := by
                  rw [← HZ.out, HA.out]
                  simp
                  omega
                have HJ2 := Lib.hid (show ∃ tt, lexAll lang (a.data.toList ++ 10 :: b.data.toList) = (tt, some z) from ⟨_, by rw [HJ.out, hlb, ← HZ.out]; rfl⟩)
                refine (lex_no rfl hlb (by omega) _).mono ?_
                rintro e w2 ⟨rfl, hb2⟩
                clear hlb
                have q2 := HP1.out w2 (hb1.trans (hb2.mono hb1.size))
                go_wp2_with fail
                obtain ⟨tt, HTT⟩ := HJ2.out
                refine (lex_no HCL.out HTT HCS.out _).mono ?_
                rintro e w3 ⟨rfl, hb3⟩
                clear HTT
                go_wp2
                go_roundw
                case rel => exact ⟨kp + 1 + 1, by omega, by omega, by omega, by go_num, hb.trans (((hb1.trans (hb2.mono hb1.size)).trans (hb3.mono (Nat.le_trans hb1.size hb2.size))).mono hb.size)⟩
                case measure => simp [intOf]; omega
              | none =>
                obtain ⟨wo, rfl⟩ : ∃ wo : World, wo = wr := ⟨_, rfl⟩
                obtain ⟨d, HD⟩ := name_it (a.data.toList.length + 1)
                have HJ2 := Lib.hid (show lexAll lang (a.data.toList ++ 10 :: b.data.toList) = (ta ++ tb.map (shift d), none) by rw [HJ.out, HTA.out, hlb, ← HD.out]; rfl)
                have HDS := Lib.hid (show d = a.size + 1 by rw [← HD.out, HA.out])
                refine (lex_ok rfl hlb (by omega) _).mono ?_
                rintro e w2 ⟨v2, rfl, ho2, hb2⟩
                have HPL := Lib.hid (places_le _ _ (places_all hlb))
                have htb := lexAll_count hlb
                rw [HB.out] at htb
                clear hlb
                obtain ⟨m, HM⟩ := name_it tb.length
                rw [HM.out] at ho2 htb
                have HO2 := Lib.hid ho2
                obtain ⟨A2, c2, rfl⟩ : ∃ A2 c2, v2 = .slice A2 m c2 := by
                  rcases ho2.2 with ⟨rfl, h0⟩ | ⟨g, cp, cur, rfl, _⟩
                  · exact ⟨none, 0, by rw [h0]⟩
                  · exact ⟨_, cp, rfl⟩
                clear ho2
                have q2 := HP1.out w2 (hb1.trans (hb2.mono hb1.size))
                go_wp2_with fail
                refine (lex_ok HCL.out HJ2.out HCS.out _).mono ?_
                rintro e w3 ⟨v3, rfl, ho3, hb3⟩
                obtain ⟨N, HN⟩ := name_it (ta ++ tb.map (shift d)).length
                rw [HN.out] at ho3
                have HO3 := Lib.hid ho3
                clear ho3
                have HLEN := Lib.hid (show (ta ++ tb.map (shift d)).length = na + m by rw [List.length_append, List.length_map, HNA.out, HM.out])
                have hb13 := hb1.trans ((hb2.mono hb1.size).trans (hb3.mono (Nat.le_trans hb1.size hb2.size)))
                have hz1 := hb1.size
                have hz2 := hb2.size
                have hz3 := hb3.size
                go_wp2
                go_loopw [15] (fun i wx => ∃ j : Nat, j ≤ m ∧ i = .int .i64 j ∧ RowKit.Hid (wx.ownsRow w1.heap.size 36 5 (.slice A2 m c2) m (flat (movedTo d j tb))) ∧ w3.grownBy wx (Value.slice A2 m c2).ownBlock) (fun i _ => m - (intOf i).toNat)
                case atStart => exact ⟨0, by omega, rfl, Lib.hid (own_below HO2.out hb3), ⟨rfl, rfl, rfl, Nat.le_refl _, fun _ _ _ => rfl⟩⟩
                case round =>
                  obtain ⟨j, hj, rfl, HOX, hgx⟩ := hrel
                  by_cases hjm : j < m
                  · have hjt : j < tb.length := by rw [HM.out]; exact hjm
                    obtain ⟨g, cp', he, hbg, hglt⟩ := HOX.out.form (by omega)
                    injection he with he1 _ he2
                    subst he1
                    subst he2
                    have ho := HOX.out
                    have hlen : m = (movedTo d j tb).length := by rw [movedTo_len, HM.out]
                    have hmt := movedTo_at d j tb hjt
                    have c3 : wr.cell? ⟨g, j * 5 + 3, none⟩ = some (.int .i64 tb[j].at_) := by rw [own_tok ho hlen j 3 (by rw [movedTo_len]; exact hjt) (by omega), hmt]; rfl
                    have c4 : wr.cell? ⟨g, j * 5 + 4, none⟩ = some (.int .i64 tb[j].end_) := by rw [own_tok ho hlen j 4 (by rw [movedTo_len]; exact hjt) (by omega), hmt]; rfl
                    obtain ⟨hat, hen⟩ := HPL.out tb[j] (List.getElem_mem hjt)
                    rw [HB.out] at hat hen
                    have HF := Lib.hid (flat_moved (d := d) hjt)
                    clear hmt hlen
                    generalize tb[j].at_ = at_ at *
                    generalize tb[j].end_ = en at *
                    obtain ⟨x3, HX3⟩ := name_it (at_ + d)
                    obtain ⟨x4, HX4⟩ := name_it (en + d)
                    rw [HX3.out, HX4.out] at HF
                    have HS1 := Lib.hid (ho.stored (j * 5 + 3) (.int .i64 x3))
                    have HS2 := Lib.hid (HS1.out.1.stored (j * 5 + 4) (.int .i64 x4))
                    have f3 : wr.frozen? ⟨g, j * 5 + 3, none⟩ = false := ho.frozenAt _
                    have e3 : IntKind.i64.wrap ((at_ : Int) + a.size) = at_ + a.size := IntWalk.i64_in _ (by omega)
                    have HE3 := Lib.hid (show ((at_ : Int) + a.size + 1) = x3 by rw [← HX3.out, HDS.out]; omega)
                    have HE4 := Lib.hid (show ((en : Int) + a.size + 1) = x4 by rw [← HX4.out, HDS.out]; omega)
                    have c4' : (wr.setCell ⟨g, j * 5 + 3, none⟩ (.int .i64 (↑at_ + ↑a.size + 1))).cell? ⟨g, j * 5 + 4, none⟩ = some (.int .i64 en) := (World.cell?_setCell_other _ _ _ _ (by simp)).trans c4
                    have f4' : (wr.setCell ⟨g, j * 5 + 3, none⟩ (.int .i64 (↑at_ + ↑a.size + 1))).frozen? ⟨g, j * 5 + 4, none⟩ = false := by rw [HE3.out]; exact HS1.out.1.frozenAt _
                    clear ho e3 hglt hbg hjt
                    go_wp2
                    go_roundw
                    case rel => exact ⟨j + 1, by omega, by go_num, Lib.hid (by rw [HE3.out, HE4.out, ← HF.out]; exact HS2.out.1), by rw [HE3.out, HE4.out]; exact grown_trans_ (grown_trans_ hgx HS1.out.2) HS2.out.2⟩
                    case measure => simp [intOf]; omega
                  · have hje : j = tb.length := by rw [HM.out]; omega
                    have hmv := HOX.out
                    rw [hje, movedTo_all] at hmv
                    have HMV := Lib.hid hmv
                    clear hmv hje HOX
                    have hk1 : ∀ k, v1.ownBlock = some k → wo.heap.size ≤ k ∧ k < w1.heap.size := fun k hk => HO1.out.lt k hk
                    have hk2 : ∀ k, (Value.slice A2 m c2).ownBlock = some k → w1.heap.size ≤ k ∧ k < w2.heap.size := fun k hk => HO2.out.lt k hk
                    have hk3 : ∀ k, v3.ownBlock = some k → w2.heap.size ≤ k ∧ k < w3.heap.size := fun k hk => HO3.out.lt k hk
                    have HR1 := Lib.hid ((own_below (own_below HO1.out hb2) (hb3.mono (Nat.le_refl _))).kept hgx (far_blocks fun k e1 e2 => by have := hk1 k e1; have := hk2 k e2; omega))
                    have HR3 := Lib.hid (HO3.out.kept hgx (far_blocks fun k e1 e2 => by have := hk3 k e1; have := hk2 k e2; omega))
                    have hzx := hgx.size
                    have HBX := Lib.hid ((hb13.grown hgx (by omega) (fun k hk => by have := hk2 k hk; omega)))
                    have K1 := Lib.hid hk1
                    have K3 := Lib.hid hk3
                    clear hk1 hk2 hk3 hgx
                    go_wp2_with (at_builtin; refine append_two rfl _ _ rfl wo.heap.size w1.heap.size v1 (.slice A2 m c2) na m (flat ta) (flat (tb.map (shift d))) rfl rfl HR1.out HMV.out (flat_one _) (by omega) (by omega) ?_)
                    intro v4 w4 ho4 hg4
                    rw [← flat_app] at ho4
                    have HR4 := Lib.hid ho4
                    have HR5 := Lib.hid (HR3.out.kept hg4 (far_blocks fun k e1 e2 => by have := K1.out k e2; have := K3.out k e1; omega))
                    have HB4 := Lib.hid (HBX.out.grown hg4 (by omega) (fun k hk => (K1.out k hk).1))
                    clear ho4 hg4
                    go_wp2_with fail
                    refine (same_rows (ts := ta ++ tb.map (shift d)) HN.out.symm HLEN.out.symm (by rw [HLEN.out]; omega) HR5.out HR4.out).mono ?_
                    rintro e w5 ⟨rfl, k5, rfl⟩
                    go_wp2
                    go_roundw
                    case rel => exact ⟨kp + 1 + 1, by omega, by omega, by omega, by go_num, below_drewN (hb.trans (HB4.out.mono hb.size)) _⟩
                    case measure => simp [intOf]; omega
    · by_cases hk2 : k < n
      · have hk3 : k = 8 := by omega
        have t1 : (8 : Int) ≤ k := by omega
        go_wp2_with fail
        refine (wakes_any _).mono ?_
        rintro e w2 ⟨rfl, hb2⟩
        go_wp2
        go_ret
        exact ⟨rfl, (hbw.trans (hb.mono hbw.size)).trans (hb2.mono (Nat.le_trans hbw.size hb.size))⟩
      · go_wp2_with fail
        refine (wakes_any _).mono ?_
        rintro e w2 ⟨rfl, hb2⟩
        go_wp2
        go_ret
        exact ⟨rfl, (hbw.trans (hb.mono hbw.size)).trans (hb2.mono (Nat.le_trans hbw.size hb.size))⟩

end Go.Proofs.Ytaaomjpkgpjegaa
