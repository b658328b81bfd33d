/- The lists' adaptive replacement: Resize. -/
import Derived.Test.YtlakojncjldpbaaGreatLa6d
import Derived.Test.YtlakojncjldpbaaGreatAca8
namespace Go.Proofs.YtlakojncjldpbaaGreat
open Go.RowKit Hop
set_option linter.unusedVariables false
set_option linter.unusedSimpArgs false
set_option maxRecDepth 100000
/-- A round's state, and what is gone so far: its slice is none of the state's. -/
def ArI (w wr : World) (c p : Int) (t u b d : List Int) (o : Value) (G : List Int) : Prop :=
  ∃ a21 n21 q21 a22 n22 q22 a23 n23 q23 a24 n24 q24 a20 n20 q20, o = .slice a20 n20 q20 ∧ ArS w wr c p (.slice a21 n21 q21) (.slice a22 n22 q22) (.slice a23 n23 q23) (.slice a24 n24 q24) t u b d ∧ KL wr (.slice a20 n20 q20) G ∧
    (∀ g, (Value.slice a20 n20 q20).ownBlock = some g → w.heap.size ≤ g ∧ (Value.slice a21 n21 q21).ownBlock ≠ some g ∧ (Value.slice a22 n22 q22).ownBlock ≠ some g ∧ (Value.slice a23 n23 q23).ownBlock ≠ some g ∧ (Value.slice a24 n24 q24).ownBlock ≠ some g)
theorem dropLast_take {L : List Int} {n : Nat} (h : n < L.length) : L.dropLast.take n = L.take n := by
  rw [List.dropLast_eq_take, List.take_take, Nat.min_eq_left (by omega)]
/-- What the last two loops leave. -/
def cutDE (c : Int) (b d : List Int) : List Int × List Int := (b.take (c - ((d.take (c - b.length).toNat).length : Int)).toNat, d.take (c - b.length).toNat)
theorem cutDE_end {c : Int} {b d : List Int} (h : (b.length : Int) + d.length ≤ c) : cutDE c b d = (b, d) := by
  unfold cutDE
  have e : d.take (c - b.length).toNat = d := List.take_of_length_le (by omega)
  rw [e, List.take_of_length_le (by omega)]
theorem cutDE_d {c : Int} {b d : List Int} (h : c < (b.length : Int) + d.length) (hd : 0 < d.length) : cutDE c b d.dropLast = cutDE c b d := by
  unfold cutDE
  rw [dropLast_take (L := d) (n := (c - b.length).toNat) (by omega)]
theorem cutDE_b {c : Int} {b : List Int} (hc : 0 ≤ c) (h : c < (b.length : Int)) : cutDE c b.dropLast [] = cutDE c b [] := by
  unfold cutDE
  simp only [List.take_nil, List.length_nil]
  rw [dropLast_take (L := b) (by omega)]
theorem cut_all (s : AS) : cutE (cutD (cutB s)) = ⟨s.c, s.p, s.t, s.u, (cutDE s.c (s.b.take (s.c - s.t.length).toNat) s.d).1, (cutDE s.c (s.b.take (s.c - s.t.length).toNat) s.d).2⟩ := rfl
set_option maxHeartbeats 25600000 in
theorem arresize_any (c p : Int) (v1 v2 v3 v4 : Value) (t u b d : List Int) (n : Int) (w : World) (hc0 : 1 ≤ capF n) (hc1 : capF n ≤ 1000) (hp0 : 0 ≤ p) (hp1 : p ≤ 1000) (hsum : t.length + u.length + b.length + d.length < 10000) (ht : t.length < 10000) (hu : u.length < 10000) (hd : b.length < 10000) (he : d.length < 10000) (h1 : KL w v1 t) (h2 : KL w v2 u) (h3 : KL w v3 b) (h4 : KL w v4 d) :
    Calls Tryz.prog 29 #[arV c p v1 v2 v3 v4, .int .i64 n] w fun e w' => ∃ u1 u2 u3 u4 vo, e = .returned (.tuple #[arV (capF n) (min p (capF n)) u1 u2 u3 u4, vo]) ∧ KL w' u1 (resizeA ⟨c, p, t, u, b, d⟩ n).1.t ∧ KL w' u2 (resizeA ⟨c, p, t, u, b, d⟩ n).1.u ∧ KL w' u3 (resizeA ⟨c, p, t, u, b, d⟩ n).1.b ∧ KL w' u4 (resizeA ⟨c, p, t, u, b, d⟩ n).1.d ∧ KL w' vo (resizeA ⟨c, p, t, u, b, d⟩ n).2 ∧ Below w.heap.size w w' := by
  have HNW := Go.Lib.hid (fun w => arnew_any n w)
  obtain ⟨r, hr⟩ : ∃ r, shrA (t.length + u.length) ⟨capF n, min p (capF n), t, u, b, d⟩ = r := ⟨_, rfl⟩
  rw [show resizeA ⟨c, p, t, u, b, d⟩ n = (cutE (cutD (cutB r.1)), r.2) from by rw [← hr]; rfl]
  obtain ⟨RR, hRR⟩ : ∃ RR, cutE (cutD (cutB r.1)) = RR := ⟨_, rfl⟩
  rw [hRR]
  have HRR := Go.Lib.hid hRR
  clear hRR
  generalize capF n = cn at *
  obtain ⟨p2, hp2⟩ : ∃ p2, min p cn = p2 := ⟨_, rfl⟩
  rw [hp2] at hr ⊢
  have hq0 : 0 ≤ p2 := by omega
  have hq1 : p2 ≤ cn := by omega
  have HR0 := Go.Lib.hid hr
  have HSM := Go.Lib.hid hsum
  have HP2 := Go.Lib.hid hp2
  clear hr hsum hp2
  obtain ⟨a1, q1, rfl⟩ := h1.form
  obtain ⟨a2, q2, rfl⟩ := h2.form
  obtain ⟨a3, q3, rfl⟩ := h3.form
  obtain ⟨a4, q4, rfl⟩ := h4.form
  generalize hn1 : t.length = n1 at *
  generalize hn2 : u.length = n2 at *
  generalize hn3 : b.length = n3 at *
  generalize hn4 : d.length = n4 at *
  have HN := Go.Lib.hid (⟨hn1, hn2, hn3, hn4⟩ : t.length = n1 ∧ u.length = n2 ∧ b.length = n3 ∧ d.length = n4)
  obtain ⟨W, hW⟩ : ∃ W, W = (w.alloc (.cells #[.int .i64 c, .int .i64 p, .slice a1 n1 q1, .slice a2 n2 q2, .slice a3 n3 q3, .slice a4 n4 q4] 55)).alloc (.cells #[.int .i64 0, .int .i64 0, .slice none 0 0, .slice none 0 0, .slice none 0 0, .slice none 0 0] 55) := ⟨_, rfl⟩
  have T0 : ArS w W c p (.slice a1 n1 q1) (.slice a2 n2 q2) (.slice a3 n3 q3) (.slice a4 n4 q4) t u b d := by rw [hW]; exact ArS.start h1 h2 h3 h4
  have HT0 := Go.Lib.hid T0
  have HW := Go.Lib.hid hW
  have HCP := Go.Lib.hid (arcopied_any c p _ _ _ _ t u b d W (by omega) (by omega) (by omega) (by omega) T0.k1 T0.k2 T0.k3 T0.k4)
  obtain ⟨c0, c1, c2, c3, c4, c5⟩ := T0.cells
  have lc := T0.b0.lt
  clear hW T0 h1 h2 h3 h4
  go_enter Tryz.func29, Tryz.ntmps29
  go_wp2_with fail
  rw [← HW.out]
  refine HCP.out.mono ?_
  rintro e w1 ⟨a5, n5, q5, a6, n6, q6, a7, n7, q7, a8, n8, q8, rfl, hk5, hk6, hk7, hk8, hb1⟩
  have T1 := HT0.out.keep hb1
  obtain ⟨V, hV⟩ : ∃ V, V = set6 w1 w.heap.size c p (.slice a5 n5 q5) (.slice a6 n6 q6) (.slice a7 n7 q7) (.slice a8 n8 q8) := ⟨_, rfl⟩
  have T2 := T1.put6 c p hk5 hk6 hk7 hk8
  rw [← hV] at T2
  obtain ⟨e0, e1, e2, e3, e4, e5⟩ := T1.cells
  have le := T1.b0.lt
  have f0 := T1.b0.frozen 0
  have f1 := T1.b0.frozen 1
  have f2 := T1.b0.frozen 2
  have f3 := T1.b0.frozen 3
  have f4 := T1.b0.frozen 4
  have f5 := T1.b0.frozen 5
  have HT2 := Go.Lib.hid T2
  unfold set6 at hV
  have HV := Go.Lib.hid hV
  clear hV T1 hk5 hk6 hk7 hk8 hb1 c0 c1 c2 c3 c4 c5 lc HCP HT0
  have fld := fun (x : World) => arS_c cn 0 (.slice none 0 0) (.slice none 0 0) (.slice none 0 0) (.slice none 0 0) x
  clear T2 hn1 hn2 hn3 hn4
  go_wp2_with fail
  rw [← HV.out]
  refine (HNW.out _).mono ?_
  rintro e w2 ⟨rfl, hb2⟩
  clear e0 e1 e2 e3 e4 e5 le f0 f1 f2 f3 f4 f5
  have T3 := HT2.out.keep hb2
  obtain ⟨V4, hV4⟩ : ∃ V4, V4 = (w2.setCell ⟨w.heap.size, 0, none⟩ (.int .i64 cn)).setCell ⟨w.heap.size, 1, none⟩ (.int .i64 p2) := ⟨_, rfl⟩
  have T4 := (T3.put0 cn).put1 p2
  rw [← hV4] at T4
  have HV4 := Go.Lib.hid hV4
  have HT4 := Go.Lib.hid T4
  obtain ⟨g0, g1, g2, g3, g4, g5⟩ := T3.cells
  have lg := T3.b0.lt
  have f0 := T3.b0.frozen 0
  have f1 := T3.b0.frozen 1
  have hmn := HP2.out
  clear T3 T4 hV4 hb2 HT2 HV
  go_wp2_with fail
  rw [← HV4.out]
  clear hmn fld g0 g1 g2 g3 g4 g5 lg f0 f1
  go_loopg [6] (n1 + n2) (fun g o wr => ∃ (t' u' b' d' G G2 : List Int), t'.length + u'.length = g ∧ t'.length + u'.length + b'.length + d'.length < 10000 ∧ G.length + g ≤ 10000 ∧ shrA g ⟨cn, p2, t', u', b', d'⟩ = (r.1, G2) ∧ G ++ G2 = r.2 ∧ ArI w wr cn p2 t' u' b' d' o G)
  case atStart =>
    obtain ⟨z1, z2, z3, z4⟩ := HN.out
    have z5 := HSM.out
    refine ⟨t, u, b, d, [], r.2, by omega, by omega, by simp; omega, by rw [HR0.out], rfl, _, _, _, _, _, _, _, _, _, _, _, _, none, 0, 0, rfl, HT4.out, KL.nil _, fun g hg => by cases hg⟩
  case round =>
    clear HT4 HR0 HSM HN HV4
    obtain ⟨t', u', b', d', G, G2, hg, hsm, hgl, hsh, hgo, a21, n21, q21, a22, n22, q22, a23, n23, q23, a24, n24, q24, a20, n20, q20, rfl, hT, hG, hO⟩ := hrel
    have e21 : n21 = t'.length := by
      obtain ⟨_, _, e⟩ := hT.k1.form
      injection e with e1 e2 e3
    have e22 : n22 = u'.length := by
      obtain ⟨_, _, e⟩ := hT.k2.form
      injection e with e1 e2 e3
    have e23 : n23 = b'.length := by
      obtain ⟨_, _, e⟩ := hT.k3.form
      injection e with e1 e2 e3
    have e24 : n24 = d'.length := by
      obtain ⟨_, _, e⟩ := hT.k4.form
      injection e with e1 e2 e3
    have hb1 : n21 < 10000 := by omega
    have hb2 : n22 < 10000 := by omega
    have hb3 : n23 < 10000 := by omega
    have hb4 : n24 < 10000 := by omega
    have HE := Go.Lib.hid (⟨e21, e22, e23, e24⟩ : n21 = t'.length ∧ n22 = u'.length ∧ n23 = b'.length ∧ n24 = d'.length)
    have HT := Go.Lib.hid hT
    have HG := Go.Lib.hid hG
    have HO := Go.Lib.hid hO
    have HSH := Go.Lib.hid hsh
    have HGO := Go.Lib.hid hgo
    have HGL := Go.Lib.hid hgl
    have HSM := Go.Lib.hid hsm
    have HGK := Go.Lib.hid hg
    by_cases hle : (n21 : Int) + (n22 : Int) ≤ cn
    · have hse := shrA_end gk ⟨cn, p2, t', u', b', d'⟩ (by show (t'.length : Int) + u'.length ≤ cn; omega)
      rw [hsh] at hse
      injection hse with s1 s2
      have HF : Hid (RR = ⟨cn, p2, t', u', (cutDE cn (b'.take (cn - (n21 : Int)).toNat) d').1, (cutDE cn (b'.take (cn - (n21 : Int)).toNat) d').2⟩) := Go.Lib.hid (by rw [← HRR.out, s1, e21]; exact cut_all _)
      have HG2 : Hid (G = r.2) := Go.Lib.hid (by rw [← hgo, s2, List.append_nil])
      have hnt : (n21 : Int) ≤ cn := by omega
      clear e21 e22 e23 e24 hg hsm hgl hsh hgo hO s1 s2
      clear HSH HGO HGL HSM HGK HO HT HG
      have TQx := hT.keep (Below.refl wr.heap.size wr).drew
      have ALx := (Below.refl wr.heap.size wr).alloc (Nat.le_refl _) (.cells #[.slice a21 n21 q21, .slice a22 n22 q22] 27)
      have TRx := (hT.keep ALx).keep (Below.refl _ _).drew
      have HAx := Go.Lib.hid TQx.cells
      have HBx := Go.Lib.hid TRx.cells
      have HTRx := Go.Lib.hid TRx
      have HMx := Go.Lib.hid (armany2 a21 a22 n21 q21 n22 q22 wr (by omega))
      have HKx := Go.Lib.hid ((hG.keep ALx).keep (Below.refl _ _).drew)
      clear TQx TRx ALx
      obtain ⟨c0, c1, c2, c3, c4, c5⟩ := hT.cells
      have lc := hT.b0.lt
      clear hT hG
      go_wp2_with fail
      go_region_held3 (fun W' => W'.cell? ⟨w.heap.size, 0, none⟩ = some (.int .i64 cn) ∧ W'.cell? ⟨w.heap.size, 1, none⟩ = some (.int .i64 p2) ∧ W'.cell? ⟨w.heap.size, 2, none⟩ = some (.slice a21 n21 q21) ∧ W'.cell? ⟨w.heap.size, 3, none⟩ = some (.slice a22 n22 q22) ∧ W'.cell? ⟨w.heap.size, 4, none⟩ = some (.slice a23 n23 q23) ∧ W'.cell? ⟨w.heap.size, 5, none⟩ = some (.slice a24 n24 q24))
        (first | with_reducible exact HBx.out | exact HAx.out)
        (first | (go_at_call 68; refine HMx.out.mono ?_; rintro e w' ⟨rfl, rfl⟩))
      obtain ⟨Wx, hWx⟩ : ∃ Wx, Wx = (wr.alloc (.cells #[.slice a21 n21 q21, .slice a22 n22 q22] 27)).drew := ⟨_, rfl⟩
      have Tx := HTRx.out
      rw [← hWx] at Tx
      have hGx := HKx.out
      rw [← hWx] at hGx
      clear HKx
      rw [← hWx]
      clear hWx HAx HBx HMx HTRx
      clear c0 c1 c2 c3 c4 c5 lc
      have HTx := Go.Lib.hid Tx
      have HGx := Go.Lib.hid hGx
      obtain ⟨c0, c1, c2, c3, c4, c5⟩ := Tx.cells
      have lc := Tx.b0.lt
      clear Tx hGx
      go_wp2_with fail
      clear c0 c1 c2 c3 c4 c5 lc
      go_loopg [] n23 (fun g wr => ∃ (b3 : List Int) (a33 : Option Addr) (n33 q33 : Nat), n33 = g ∧ b3.length = n33 ∧ n33 ≤ n23 ∧ b3.take (cn - (n21 : Int)).toNat = b'.take (cn - (n21 : Int)).toNat ∧ ArS w wr cn p2 (.slice a21 n21 q21) (.slice a22 n22 q22) (.slice a33 n33 q33) (.slice a24 n24 q24) t' u' b3 d' ∧ KL wr (.slice a20 n20 q20) G)
      case atStart => exact ⟨b', a23, n23, q23, rfl, HE.out.2.2.1.symm, Nat.le_refl _, rfl, HTx.out, HGx.out⟩
      case round =>
        clear HTx HGx
        obtain ⟨b3, a33, n33, q33, rfl, hbl, hbn, htk, hT2, hG2⟩ := hrel
        by_cases hl2 : (n21 : Int) + (n33 : Int) ≤ cn
        · have hb3 : b3 = b'.take (cn - (n21 : Int)).toNat := by rw [← htk]; exact (List.take_of_length_le (by omega)).symm
          have HF2 : Hid (RR = ⟨cn, p2, t', u', (cutDE cn b3 d').1, (cutDE cn b3 d').2⟩) := Go.Lib.hid (by rw [HF.out, hb3])
          have HB3 := Go.Lib.hid hbl
          clear hb3 htk hbl
          have TQy := hT2.keep (Below.refl wr.heap.size wr).drew
          have ALy := (Below.refl wr.heap.size wr).alloc (Nat.le_refl _) (.cells #[.slice a21 n21 q21, .slice a33 n33 q33] 27)
          have TRy := (hT2.keep ALy).keep (Below.refl _ _).drew
          have HAy := Go.Lib.hid TQy.cells
          have HBy := Go.Lib.hid TRy.cells
          have HTRy := Go.Lib.hid TRy
          have HMy := Go.Lib.hid (armany2 a21 a33 n21 q21 n33 q33 wr (by omega))
          have HKy := Go.Lib.hid ((hG2.keep ALy).keep (Below.refl _ _).drew)
          clear TQy TRy ALy
          obtain ⟨c0, c1, c2, c3, c4, c5⟩ := hT2.cells
          have lc := hT2.b0.lt
          clear hT2 hG2
          go_wp2_with fail
          go_region_held3 (fun W' => W'.cell? ⟨w.heap.size, 0, none⟩ = some (.int .i64 cn) ∧ W'.cell? ⟨w.heap.size, 1, none⟩ = some (.int .i64 p2) ∧ W'.cell? ⟨w.heap.size, 2, none⟩ = some (.slice a21 n21 q21) ∧ W'.cell? ⟨w.heap.size, 3, none⟩ = some (.slice a22 n22 q22) ∧ W'.cell? ⟨w.heap.size, 4, none⟩ = some (.slice a33 n33 q33) ∧ W'.cell? ⟨w.heap.size, 5, none⟩ = some (.slice a24 n24 q24))
            (first | with_reducible exact HBy.out | exact HAy.out)
            (first | (go_at_call 68; refine HMy.out.mono ?_; rintro e w' ⟨rfl, rfl⟩))
          obtain ⟨Wy, hWy⟩ : ∃ Wy, Wy = (wr.alloc (.cells #[.slice a21 n21 q21, .slice a33 n33 q33] 27)).drew := ⟨_, rfl⟩
          have Ty := HTRy.out
          rw [← hWy] at Ty
          have hGy := HKy.out
          rw [← hWy] at hGy
          clear HKy
          rw [← hWy]
          clear hWy HAy HBy HMy HTRy
          clear c0 c1 c2 c3 c4 c5 lc
          have HTy := Go.Lib.hid Ty
          have HGy := Go.Lib.hid hGy
          obtain ⟨c0, c1, c2, c3, c4, c5⟩ := Ty.cells
          have lc := Ty.b0.lt
          clear Ty hGy
          go_wp2_with fail
          clear c0 c1 c2 c3 c4 c5 lc
          go_loopg [] (n33 + n24) (fun g wr => ∃ (b4 d4 : List Int) (a43 : Option Addr) (n43 q43 : Nat) (a44 : Option Addr) (n44 q44 : Nat), n43 + n44 = g ∧ g ≤ n33 + n24 ∧ b4.length = n43 ∧ d4.length = n44 ∧ cutDE cn b4 d4 = cutDE cn b3 d' ∧ ArS w wr cn p2 (.slice a21 n21 q21) (.slice a22 n22 q22) (.slice a43 n43 q43) (.slice a44 n44 q44) t' u' b4 d4 ∧ KL wr (.slice a20 n20 q20) G)
          case atStart => exact ⟨b3, d', a33, n33, q33, a24, n24, q24, rfl, Nat.le_refl _, HB3.out, HE.out.2.2.2.symm, rfl, HTy.out, HGy.out⟩
          case round =>
            clear HTy HGy
            obtain ⟨b4, d4, a43, n43, q43, a44, n44, q44, hgz, hgb, h43, h44, hcd, hT3, hG3⟩ := hrel
            have hbb : n43 + n44 < 20000 := by omega
            by_cases hl3 : (n43 : Int) + (n44 : Int) ≤ cn
            · clear hgz
              have hfin := cutDE_end (c := cn) (b := b4) (d := d4) (by omega)
              rw [hcd] at hfin
              have HF3 : Hid (RR = ⟨cn, p2, t', u', b4, d4⟩) := Go.Lib.hid (by rw [HF2.out, hfin])
              clear hfin hcd h43 h44
              have TQz := hT3.keep (Below.refl wr.heap.size wr).drew
              have ALz := (Below.refl wr.heap.size wr).alloc (Nat.le_refl _) (.cells #[.slice a43 n43 q43, .slice a44 n44 q44] 27)
              have TRz := (hT3.keep ALz).keep (Below.refl _ _).drew
              have HAz := Go.Lib.hid TQz.cells
              have HBz := Go.Lib.hid TRz.cells
              have HTRz := Go.Lib.hid TRz
              have HMz := Go.Lib.hid (armany2 a43 a44 n43 q43 n44 q44 wr (by omega))
              have HKz := Go.Lib.hid ((hG3.keep ALz).keep (Below.refl _ _).drew)
              clear TQz TRz ALz
              obtain ⟨c0, c1, c2, c3, c4, c5⟩ := hT3.cells
              have lc := hT3.b0.lt
              clear hT3 hG3
              go_wp2_with fail
              go_region_held3 (fun W' => W'.cell? ⟨w.heap.size, 0, none⟩ = some (.int .i64 cn) ∧ W'.cell? ⟨w.heap.size, 1, none⟩ = some (.int .i64 p2) ∧ W'.cell? ⟨w.heap.size, 2, none⟩ = some (.slice a21 n21 q21) ∧ W'.cell? ⟨w.heap.size, 3, none⟩ = some (.slice a22 n22 q22) ∧ W'.cell? ⟨w.heap.size, 4, none⟩ = some (.slice a43 n43 q43) ∧ W'.cell? ⟨w.heap.size, 5, none⟩ = some (.slice a44 n44 q44))
                (first | with_reducible exact HBz.out | exact HAz.out)
                (first | (go_at_call 68; refine HMz.out.mono ?_; rintro e w' ⟨rfl, rfl⟩))
              obtain ⟨Wz, hWz⟩ : ∃ Wz, Wz = (wr.alloc (.cells #[.slice a43 n43 q43, .slice a44 n44 q44] 27)).drew := ⟨_, rfl⟩
              have Tz := HTRz.out
              rw [← hWz] at Tz
              have hGz := HKz.out
              rw [← hWz] at hGz
              clear HKz
              rw [← hWz]
              clear hWz HAz HBz HMz HTRz
              clear c0 c1 c2 c3 c4 c5 lc
              have TO := Tz.give
              obtain ⟨R, hR⟩ : ∃ R, R = set6 Wz (w.heap.size + 1) cn p2 (.slice a21 n21 q21) (.slice a22 n22 q22) (.slice a43 n43 q43) (.slice a44 n44 q44) := ⟨_, rfl⟩
              have SO : KL R (.slice a20 n20 q20) r.2 := by rw [hR, ← HG2.out]; exact Tz.give_side hGz
              rw [← hR] at TO
              unfold set6 at hR
              have HR := Go.Lib.hid hR
              have HTO := Go.Lib.hid TO
              have HSO := Go.Lib.hid SO
              obtain ⟨g0, g1, g2, g3, g4, g5⟩ := Tz.cells
              have lg := Tz.b0.lt
              obtain ⟨z0, z1, z2, z3, z4, z5⟩ := Tz.zeros
              have zf0 := Tz.b1.frozen 0
              have zf1 := Tz.b1.frozen 1
              have zf2 := Tz.b1.frozen 2
              have zf3 := Tz.b1.frozen 3
              have zf4 := Tz.b1.frozen 4
              have zf5 := Tz.b1.frozen 5
              have lz := Tz.b1.lt
              obtain ⟨d0, d1, d2, d3, d4, d5⟩ := TO.cells
              have ld := TO.b1.lt
              clear hR TO SO Tz hGz
              go_wp2_with fail
              rw [← HR.out]
              refine bodyPost_ret (v := .tuple #[.agg #[.int .i64 cn, .int .i64 p2, .slice a21 n21 q21, .slice a22 n22 q22, .slice a43 n43 q43, .slice a44 n44 q44], .slice a20 n20 q20]) (by simp [results, Tryz.results29, go_sem, d0, d1, d2, d3, d4, d5]) rfl ?_
              rw [HF3.out]
              exact ⟨_, _, _, _, _, rfl, HTO.out.k1, HTO.out.k2, HTO.out.k3, HTO.out.k4, HSO.out, HTO.out.hb⟩
            have hl4 : cn < (n43 : Int) + (n44 : Int) := by omega
            by_cases hd0 : (0 : Int) < (n44 : Int)
            · have HCX := Go.Lib.hid (fun W1 (kk : KL W1 (.slice a44 n44 q44) d4) => arcut_any (.slice a44 n44 q44) d4 W1 (by omega) kk)
              have HCD := Go.Lib.hid (⟨h43, h44, hcd, hgz⟩ : b4.length = n43 ∧ d4.length = n44 ∧ cutDE cn b4 d4 = cutDE cn b3 d' ∧ n43 + n44 = gk)
              clear hcd h43 h44
              have TQz := hT3.keep (Below.refl wr.heap.size wr).drew
              have ALz := (Below.refl wr.heap.size wr).alloc (Nat.le_refl _) (.cells #[.slice a43 n43 q43, .slice a44 n44 q44] 27)
              have TRz := (hT3.keep ALz).keep (Below.refl _ _).drew
              have HAz := Go.Lib.hid TQz.cells
              have HBz := Go.Lib.hid TRz.cells
              have HTRz := Go.Lib.hid TRz
              have HMz := Go.Lib.hid (armany2 a43 a44 n43 q43 n44 q44 wr (by omega))
              have HKz := Go.Lib.hid ((hG3.keep ALz).keep (Below.refl _ _).drew)
              clear TQz TRz ALz
              obtain ⟨c0, c1, c2, c3, c4, c5⟩ := hT3.cells
              have lc := hT3.b0.lt
              clear hT3 hG3
              go_wp2_with fail
              go_region_held3 (fun W' => W'.cell? ⟨w.heap.size, 0, none⟩ = some (.int .i64 cn) ∧ W'.cell? ⟨w.heap.size, 1, none⟩ = some (.int .i64 p2) ∧ W'.cell? ⟨w.heap.size, 2, none⟩ = some (.slice a21 n21 q21) ∧ W'.cell? ⟨w.heap.size, 3, none⟩ = some (.slice a22 n22 q22) ∧ W'.cell? ⟨w.heap.size, 4, none⟩ = some (.slice a43 n43 q43) ∧ W'.cell? ⟨w.heap.size, 5, none⟩ = some (.slice a44 n44 q44))
                (first | with_reducible exact HBz.out | exact HAz.out)
                (first | (go_at_call 68; refine HMz.out.mono ?_; rintro e w' ⟨rfl, rfl⟩))
              obtain ⟨Wz, hWz⟩ : ∃ Wz, Wz = (wr.alloc (.cells #[.slice a43 n43 q43, .slice a44 n44 q44] 27)).drew := ⟨_, rfl⟩
              have Tz := HTRz.out
              rw [← hWz] at Tz
              have hGz := HKz.out
              rw [← hWz] at hGz
              clear HKz
              rw [← hWz]
              clear hWz HAz HBz HMz HTRz
              clear c0 c1 c2 c3 c4 c5 lc
              have HCT := Go.Lib.hid (HCX.out Wz Tz.k4)
              have HTz := Go.Lib.hid Tz
              have HGz := Go.Lib.hid hGz
              obtain ⟨c0, c1, c2, c3, c4, c5⟩ := Tz.cells
              have lc := Tz.b0.lt
              clear Tz hGz
              go_wp2_with fail
              refine HCT.out.mono ?_
              rintro e w5 ⟨a53, n53, q53, rfl, hk5, ho5, hb5⟩
              have T5 := HTz.out.keep hb5
              obtain ⟨V5, hV5⟩ : ∃ V5, V5 = w5.setCell ⟨w.heap.size, 5, none⟩ (.slice a53 n53 q53) := ⟨_, rfl⟩
              have T6 := T5.put5 hk5
              rw [← hV5] at T6
              have G6 : KL V5 (.slice a20 n20 q20) G := by rw [hV5]; exact T5.side1 (HGz.out.keep hb5)
              have hl53 : n53 = d4.dropLast.length := by
                obtain ⟨_, _, e⟩ := hk5.form
                injection e with e1 e2 e3
              have HL53 := Go.Lib.hid hl53
              have HT6 := Go.Lib.hid T6
              have HG6 := Go.Lib.hid G6
              have HV5 := Go.Lib.hid hV5
              clear c0 c1 c2 c3 c4 c5 lc
              obtain ⟨c0, c1, c2, c3, c4, c5⟩ := T5.cells
              have lc := T5.b0.lt
              have f0 := T5.b0.frozen 5
              clear T5 T6 G6 hV5 hk5 ho5 hb5 hl53 HCT
              go_wp2_with fail
              rw [← HV5.out]
              obtain ⟨h43, h44, hcd, hgz⟩ := HCD.out
              have hl53 := HL53.out
              have hl54 := hl53
              rw [List.length_dropLast] at hl54
              go_roundg (n43 + n53)
              case rel =>
                exact ⟨b4, d4.dropLast, a43, n43, q43, a53, n53, q53, rfl, by omega, h43, hl53.symm, by rw [cutDE_d (by omega) (by omega)]; exact hcd, HT6.out, HG6.out⟩
              case measure => omega
            · have HCX := Go.Lib.hid (fun W1 (kk : KL W1 (.slice a43 n43 q43) b4) => arcut_any (.slice a43 n43 q43) b4 W1 (by omega) kk)
              have HCD := Go.Lib.hid (⟨h43, h44, hcd, hgz⟩ : b4.length = n43 ∧ d4.length = n44 ∧ cutDE cn b4 d4 = cutDE cn b3 d' ∧ n43 + n44 = gk)
              clear hcd h43 h44
              have TQz := hT3.keep (Below.refl wr.heap.size wr).drew
              have ALz := (Below.refl wr.heap.size wr).alloc (Nat.le_refl _) (.cells #[.slice a43 n43 q43, .slice a44 n44 q44] 27)
              have TRz := (hT3.keep ALz).keep (Below.refl _ _).drew
              have HAz := Go.Lib.hid TQz.cells
              have HBz := Go.Lib.hid TRz.cells
              have HTRz := Go.Lib.hid TRz
              have HMz := Go.Lib.hid (armany2 a43 a44 n43 q43 n44 q44 wr (by omega))
              have HKz := Go.Lib.hid ((hG3.keep ALz).keep (Below.refl _ _).drew)
              clear TQz TRz ALz
              obtain ⟨c0, c1, c2, c3, c4, c5⟩ := hT3.cells
              have lc := hT3.b0.lt
              clear hT3 hG3
              go_wp2_with fail
              go_region_held3 (fun W' => W'.cell? ⟨w.heap.size, 0, none⟩ = some (.int .i64 cn) ∧ W'.cell? ⟨w.heap.size, 1, none⟩ = some (.int .i64 p2) ∧ W'.cell? ⟨w.heap.size, 2, none⟩ = some (.slice a21 n21 q21) ∧ W'.cell? ⟨w.heap.size, 3, none⟩ = some (.slice a22 n22 q22) ∧ W'.cell? ⟨w.heap.size, 4, none⟩ = some (.slice a43 n43 q43) ∧ W'.cell? ⟨w.heap.size, 5, none⟩ = some (.slice a44 n44 q44))
                (first | with_reducible exact HBz.out | exact HAz.out)
                (first | (go_at_call 68; refine HMz.out.mono ?_; rintro e w' ⟨rfl, rfl⟩))
              obtain ⟨Wz, hWz⟩ : ∃ Wz, Wz = (wr.alloc (.cells #[.slice a43 n43 q43, .slice a44 n44 q44] 27)).drew := ⟨_, rfl⟩
              have Tz := HTRz.out
              rw [← hWz] at Tz
              have hGz := HKz.out
              rw [← hWz] at hGz
              clear HKz
              rw [← hWz]
              clear hWz HAz HBz HMz HTRz
              clear c0 c1 c2 c3 c4 c5 lc
              have HCT := Go.Lib.hid (HCX.out Wz Tz.k3)
              have HTz := Go.Lib.hid Tz
              have HGz := Go.Lib.hid hGz
              obtain ⟨c0, c1, c2, c3, c4, c5⟩ := Tz.cells
              have lc := Tz.b0.lt
              clear Tz hGz
              go_wp2_with fail
              refine HCT.out.mono ?_
              rintro e w5 ⟨a53, n53, q53, rfl, hk5, ho5, hb5⟩
              have T5 := HTz.out.keep hb5
              obtain ⟨V5, hV5⟩ : ∃ V5, V5 = w5.setCell ⟨w.heap.size, 4, none⟩ (.slice a53 n53 q53) := ⟨_, rfl⟩
              have T6 := T5.put4 hk5
              rw [← hV5] at T6
              have G6 : KL V5 (.slice a20 n20 q20) G := by rw [hV5]; exact T5.side1 (HGz.out.keep hb5)
              have hl53 : n53 = b4.dropLast.length := by
                obtain ⟨_, _, e⟩ := hk5.form
                injection e with e1 e2 e3
              have HL53 := Go.Lib.hid hl53
              have HT6 := Go.Lib.hid T6
              have HG6 := Go.Lib.hid G6
              have HV5 := Go.Lib.hid hV5
              clear c0 c1 c2 c3 c4 c5 lc
              obtain ⟨c0, c1, c2, c3, c4, c5⟩ := T5.cells
              have lc := T5.b0.lt
              have f0 := T5.b0.frozen 4
              clear T5 T6 G6 hV5 hk5 ho5 hb5 hl53 HCT
              go_wp2_with fail
              rw [← HV5.out]
              obtain ⟨h43, h44, hcd, hgz⟩ := HCD.out
              have hl53 := HL53.out
              have hl54 := hl53
              rw [List.length_dropLast] at hl54
              go_roundg (n53 + n44)
              case rel =>
                exact ⟨b4.dropLast, d4, a53, n53, q53, a44, n44, q44, rfl, by omega, hl53.symm, h44, by rw [List.eq_nil_of_length_eq_zero (l := d4) (by omega)] at hcd ⊢; rw [cutDE_b (by omega) (by omega)]; exact hcd, HT6.out, HG6.out⟩
              case measure => omega
        · have HCX := Go.Lib.hid (fun W1 (kk : KL W1 (.slice a33 n33 q33) b3) => arcut_any (.slice a33 n33 q33) b3 W1 (by omega) kk)
          have hl2g : cn < (n21 : Int) + (n33 : Int) := by omega
          have HTK := Go.Lib.hid (⟨hbl, htk⟩ : b3.length = n33 ∧ b3.take (cn - (n21 : Int)).toNat = b'.take (cn - (n21 : Int)).toNat)
          clear hbl htk
          have TQy := hT2.keep (Below.refl wr.heap.size wr).drew
          have ALy := (Below.refl wr.heap.size wr).alloc (Nat.le_refl _) (.cells #[.slice a21 n21 q21, .slice a33 n33 q33] 27)
          have TRy := (hT2.keep ALy).keep (Below.refl _ _).drew
          have HAy := Go.Lib.hid TQy.cells
          have HBy := Go.Lib.hid TRy.cells
          have HTRy := Go.Lib.hid TRy
          have HMy := Go.Lib.hid (armany2 a21 a33 n21 q21 n33 q33 wr (by omega))
          have HKy := Go.Lib.hid ((hG2.keep ALy).keep (Below.refl _ _).drew)
          clear TQy TRy ALy
          obtain ⟨c0, c1, c2, c3, c4, c5⟩ := hT2.cells
          have lc := hT2.b0.lt
          clear hT2 hG2
          go_wp2_with fail
          go_region_held3 (fun W' => W'.cell? ⟨w.heap.size, 0, none⟩ = some (.int .i64 cn) ∧ W'.cell? ⟨w.heap.size, 1, none⟩ = some (.int .i64 p2) ∧ W'.cell? ⟨w.heap.size, 2, none⟩ = some (.slice a21 n21 q21) ∧ W'.cell? ⟨w.heap.size, 3, none⟩ = some (.slice a22 n22 q22) ∧ W'.cell? ⟨w.heap.size, 4, none⟩ = some (.slice a33 n33 q33) ∧ W'.cell? ⟨w.heap.size, 5, none⟩ = some (.slice a24 n24 q24))
            (first | with_reducible exact HBy.out | exact HAy.out)
            (first | (go_at_call 68; refine HMy.out.mono ?_; rintro e w' ⟨rfl, rfl⟩))
          obtain ⟨Wy, hWy⟩ : ∃ Wy, Wy = (wr.alloc (.cells #[.slice a21 n21 q21, .slice a33 n33 q33] 27)).drew := ⟨_, rfl⟩
          have Ty := HTRy.out
          rw [← hWy] at Ty
          have hGy := HKy.out
          rw [← hWy] at hGy
          clear HKy
          rw [← hWy]
          clear hWy HAy HBy HMy HTRy
          clear c0 c1 c2 c3 c4 c5 lc
          have HCT := Go.Lib.hid (HCX.out Wy Ty.k3)
          have HTy := Go.Lib.hid Ty
          have HGy := Go.Lib.hid hGy
          obtain ⟨c0, c1, c2, c3, c4, c5⟩ := Ty.cells
          have lc := Ty.b0.lt
          clear Ty hGy
          go_wp2_with fail
          refine HCT.out.mono ?_
          rintro e w5 ⟨a53, n53, q53, rfl, hk5, ho5, hb5⟩
          have T5 := HTy.out.keep hb5
          obtain ⟨V5, hV5⟩ : ∃ V5, V5 = w5.setCell ⟨w.heap.size, 4, none⟩ (.slice a53 n53 q53) := ⟨_, rfl⟩
          have T6 := T5.put4 hk5
          rw [← hV5] at T6
          have G6 : KL V5 (.slice a20 n20 q20) G := by rw [hV5]; exact T5.side1 (HGy.out.keep hb5)
          have hl53 : n53 = b3.dropLast.length := by
            obtain ⟨_, _, e⟩ := hk5.form
            injection e with e1 e2 e3
          have HL53 := Go.Lib.hid hl53
          have HT6 := Go.Lib.hid T6
          have HG6 := Go.Lib.hid G6
          have HV5 := Go.Lib.hid hV5
          clear c0 c1 c2 c3 c4 c5 lc
          obtain ⟨c0, c1, c2, c3, c4, c5⟩ := T5.cells
          have lc := T5.b0.lt
          have f0 := T5.b0.frozen 4
          clear T5 T6 G6 hV5 hk5 ho5 hb5 hl53 HCT
          go_wp2_with fail
          rw [← HV5.out]
          obtain ⟨hbl, htk⟩ := HTK.out
          have hl53 := HL53.out
          have hl54 := hl53
          rw [List.length_dropLast] at hl54
          go_roundg n53
          case rel => exact ⟨b3.dropLast, a53, n53, q53, rfl, hl53.symm, by omega, by rw [dropLast_take (by omega)]; exact htk, HT6.out, HG6.out⟩
          case measure => omega
    · have hgt : cn < (n21 : Int) + (n22 : Int) := by omega
      have hev := evok_many (s := ⟨cn, p2, t', u', b', d'⟩) hc0 hq0 (by show ¬ (t'.length : Int) + u'.length ≤ cn; omega)
      obtain ⟨f, rfl⟩ : ∃ f, gk = f + 1 := ⟨gk - 1, by omega⟩
      have hsg := shrA_go f ⟨cn, p2, t', u', b', d'⟩ (by show ¬ (t'.length : Int) + u'.length ≤ cn; omega)
      rw [hsh] at hsg
      injection hsg with s1 s2
      have hl := evictA_len ⟨cn, p2, t', u', b', d'⟩ (manyA ⟨cn, p2, t', u', b', d'⟩) hev
      have hmb : manyA ⟨cn, p2, t', u', b', d'⟩ = (decide (p2 < (n21 : Int)) || decide (n22 = 0)) := by rw [e21, e22]; rfl
      generalize manyA ⟨cn, p2, t', u', b', d'⟩ = mb at *
      have HDX := Go.Lib.hid (fun (W1 : World) (k1 : KL W1 (.slice a21 n21 q21) t') (k2 : KL W1 (.slice a22 n22 q22) u') (k3 : KL W1 (.slice a23 n23 q23) b') (k4 : KL W1 (.slice a24 n24 q24) d') => ardemote_own cn p2 _ _ _ _ t' u' b' d' mb W1 (by omega) (by omega) (by omega) (by omega) k1 k2 k3 k4)
      generalize evictA ⟨cn, p2, t', u', b', d'⟩ mb = ev at *
      obtain ⟨⟨ec, ep, et, eu, eb, ed⟩, eg⟩ := ev
      simp only at hl s1 s2 HDX
      obtain ⟨l1, l2, l3, l4, l5⟩ := hl
      subst ec
      subst ep
      have HNX := Go.Lib.hid (⟨by omega, by omega, by omega, trivial⟩ : et.length + eu.length = f ∧ et.length + eu.length + eb.length + ed.length < 10000 ∧ G.length + 1 + f ≤ 10000 ∧ True)
      have HS1 := Go.Lib.hid s1
      have HS2 := Go.Lib.hid s2
      clear e21 e22 e23 e24 hg hsm hgl hsh hgo hO s1 s2 l3 l4 l5 hev HSH HGK HE hle
      by_cases hp : p2 < (n21 : Int)
      · have e : mb = true := by rw [hmb]; simp [hp]
        subst e
        clear hmb
        have TQa := hT.keep (Below.refl wr.heap.size wr).drew
        have ALa := (Below.refl wr.heap.size wr).alloc (Nat.le_refl _) (.cells #[.slice a21 n21 q21, .slice a22 n22 q22] 27)
        have TRa := (hT.keep ALa).keep (Below.refl _ _).drew
        have HAa := Go.Lib.hid TQa.cells
        have HBa := Go.Lib.hid TRa.cells
        have HTRa := Go.Lib.hid TRa
        have HMa := Go.Lib.hid (armany2 a21 a22 n21 q21 n22 q22 wr (by omega))
        have HKa := Go.Lib.hid ((hG.keep ALa).keep (Below.refl _ _).drew)
        clear TQa TRa ALa
        obtain ⟨c0, c1, c2, c3, c4, c5⟩ := hT.cells
        have lc := hT.b0.lt
        clear hT hG
        go_wp2_with fail
        go_region_held3 (fun W' => W'.cell? ⟨w.heap.size, 0, none⟩ = some (.int .i64 cn) ∧ W'.cell? ⟨w.heap.size, 1, none⟩ = some (.int .i64 p2) ∧ W'.cell? ⟨w.heap.size, 2, none⟩ = some (.slice a21 n21 q21) ∧ W'.cell? ⟨w.heap.size, 3, none⟩ = some (.slice a22 n22 q22) ∧ W'.cell? ⟨w.heap.size, 4, none⟩ = some (.slice a23 n23 q23) ∧ W'.cell? ⟨w.heap.size, 5, none⟩ = some (.slice a24 n24 q24))
          (first | with_reducible exact HBa.out | exact HAa.out)
          (first | (go_at_call 68; refine HMa.out.mono ?_; rintro e w' ⟨rfl, rfl⟩))
        obtain ⟨W9, hWa⟩ : ∃ W9, W9 = (wr.alloc (.cells #[.slice a21 n21 q21, .slice a22 n22 q22] 27)).drew := ⟨_, rfl⟩
        have T9 := HTRa.out
        rw [← hWa] at T9
        have hG9 := HKa.out
        rw [← hWa] at hG9
        clear HKa
        rw [← hWa]
        clear hWa HAa HBa HMa HTRa
        clear c0 c1 c2 c3 c4 c5 lc
        have HDM := Go.Lib.hid (HDX.out W9 T9.k1 T9.k2 T9.k3 T9.k4)
        have HT9 := Go.Lib.hid T9
        have HG9 := Go.Lib.hid hG9
        obtain ⟨c0, c1, c2, c3, c4, c5⟩ := T9.cells
        have lc := T9.b0.lt
        clear T9 hG9
        go_wp2_with fail
        refine HDM.out.mono ?_
        rintro e w7 ⟨a31, n31, q31, a32, n32, q32, a33, n33, q33, a34, n34, q34, x, rfl, k31, k32, k33, k34, hx, hb7, o1, o2, o3, o4⟩
        have T7 := HT9.out.keep hb7
        have G7 := HG9.out.keep hb7
        have hs7 := hb7.size
        have w1 := Go.Lib.hid (show ∀ g, (Value.slice a20 n20 q20).ownBlock = some g → (Value.slice a31 n31 q31).ownBlock ≠ some g from fun g hg e => (o1 g e).elim (fun e' => (HO.out g hg).2.1 e') (fun e' => by have := (HG9.out.lt hg).1; omega))
        have w2 := Go.Lib.hid (show ∀ g, (Value.slice a20 n20 q20).ownBlock = some g → (Value.slice a32 n32 q32).ownBlock ≠ some g from fun g hg e => (o2 g e).elim (fun e' => (HO.out g hg).2.2.1 e') (fun e' => by have := (HG9.out.lt hg).1; omega))
        have w3 := Go.Lib.hid (show ∀ g, (Value.slice a20 n20 q20).ownBlock = some g → (Value.slice a33 n33 q33).ownBlock ≠ some g from fun g hg e => (o3 g e).elim (fun e' => (HO.out g hg).2.2.2.1 e') (fun e' => by have := (HG9.out.lt hg).1; omega))
        have w4 := Go.Lib.hid (show ∀ g, (Value.slice a20 n20 q20).ownBlock = some g → (Value.slice a34 n34 q34).ownBlock ≠ some g from fun g hg e => (o4 g e).elim (fun e' => (HO.out g hg).2.2.2.2 e') (fun e' => by have := (HG9.out.lt hg).1; omega))
        obtain ⟨W8, hW8⟩ : ∃ W8, W8 = w7.alloc (.cells #[.int .i64 cn, .int .i64 p2, .slice a31 n31 q31, .slice a32 n32 q32, .slice a33 n33 q33, .slice a34 n34 q34] 55) := ⟨_, rfl⟩
        have A8 : Below w7.heap.size w7 W8 := by rw [hW8]; exact (Below.refl _ _).alloc (Nat.le_refl _) _
        have b8 : Blk W8 w7.heap.size (arC cn p2 (.slice a31 n31 q31) (.slice a32 n32 q32) (.slice a33 n33 q33) (.slice a34 n34 q34)) 55 := by rw [hW8]; exact Blk.new0 w7 _ _
        have hB8 := T7.b1.lt
        have hne8 : w7.heap.size ≠ w.heap.size := by omega
        have AL := ((Below.refl W8.heap.size W8).alloc (Nat.le_refl _) (.cells #[.int .u64 x] 32))
        have A9 := AL.trans ((Below.refl _ _).drew.mono AL.size)
        have TD := (T7.keep A8).keep A9
        have GD := (G7.keep A8).keep A9
        have bD := b8.keep A9
        have kD1 := (k31.keep A8).keep A9
        have kD2 := (k32.keep A8).keep A9
        have kD3 := (k33.keep A8).keep A9
        have kD4 := (k34.keep A8).keep A9
        have HLX := Go.Lib.hid ((KL.lit W8 x).keep (Below.refl _ _).drew)
        have HGD := Go.Lib.hid GD
        have HBD := Go.Lib.hid bD
        have HTD := Go.Lib.hid TD
        have HKD1 := Go.Lib.hid kD1
        have HKD2 := Go.Lib.hid kD2
        have HKD3 := Go.Lib.hid kD3
        have HKD4 := Go.Lib.hid kD4
        have HA0 := Go.Lib.hid ((⟨b8.drew.cell 0, b8.drew.cell 1, b8.drew.cell 2, b8.drew.cell 3, b8.drew.cell 4, b8.drew.cell 5⟩ : W8.drew.cell? ⟨w7.heap.size, 0, none⟩ = some (.int .i64 cn) ∧ W8.drew.cell? ⟨w7.heap.size, 1, none⟩ = some (.int .i64 p2) ∧ W8.drew.cell? ⟨w7.heap.size, 2, none⟩ = some (.slice a31 n31 q31) ∧ W8.drew.cell? ⟨w7.heap.size, 3, none⟩ = some (.slice a32 n32 q32) ∧ W8.drew.cell? ⟨w7.heap.size, 4, none⟩ = some (.slice a33 n33 q33) ∧ W8.drew.cell? ⟨w7.heap.size, 5, none⟩ = some (.slice a34 n34 q34)))
        have HA1 := Go.Lib.hid ((⟨bD.cell 0, bD.cell 1, bD.cell 2, bD.cell 3, bD.cell 4, bD.cell 5⟩ : (W8.alloc (.cells #[.int .u64 x] 32)).drew.cell? ⟨w7.heap.size, 0, none⟩ = some (.int .i64 cn) ∧ (W8.alloc (.cells #[.int .u64 x] 32)).drew.cell? ⟨w7.heap.size, 1, none⟩ = some (.int .i64 p2) ∧ (W8.alloc (.cells #[.int .u64 x] 32)).drew.cell? ⟨w7.heap.size, 2, none⟩ = some (.slice a31 n31 q31) ∧ (W8.alloc (.cells #[.int .u64 x] 32)).drew.cell? ⟨w7.heap.size, 3, none⟩ = some (.slice a32 n32 q32) ∧ (W8.alloc (.cells #[.int .u64 x] 32)).drew.cell? ⟨w7.heap.size, 4, none⟩ = some (.slice a33 n33 q33) ∧ (W8.alloc (.cells #[.int .u64 x] 32)).drew.cell? ⟨w7.heap.size, 5, none⟩ = some (.slice a34 n34 q34)))
        have HSX := Go.Lib.hid (fun w10 (r2 : Fr (fun b => (Value.slice a20 n20 q20).ownBlock = some b) ((W8.alloc (.cells #[.int .u64 x] 32)).drew) w10) => (have b10 := r2.blk (fun hb => HGD.out.ne HBD.out (by decide) _ hb rfl) HBD.out; (⟨b10.cell 0, b10.cell 1, b10.cell 2, b10.cell 3, b10.cell 4, b10.cell 5⟩ : w10.cell? ⟨w7.heap.size, 0, none⟩ = some (.int .i64 cn) ∧ w10.cell? ⟨w7.heap.size, 1, none⟩ = some (.int .i64 p2) ∧ w10.cell? ⟨w7.heap.size, 2, none⟩ = some (.slice a31 n31 q31) ∧ w10.cell? ⟨w7.heap.size, 3, none⟩ = some (.slice a32 n32 q32) ∧ w10.cell? ⟨w7.heap.size, 4, none⟩ = some (.slice a33 n33 q33) ∧ w10.cell? ⟨w7.heap.size, 5, none⟩ = some (.slice a34 n34 q34))))
        have HSY := Go.Lib.hid (fun w10 y0 y1 y2 y3 y4 y5 (r2 : Fr (fun b => (Value.slice a20 n20 q20).ownBlock = some b) ((W8.alloc (.cells #[.int .u64 x] 32)).drew) w10) => (have b10 := r2.blk (fun hb => HGD.out.ne HBD.out (by decide) _ hb rfl) HBD.out; have b11 := ((((((b10.set_ne (a := ⟨w.heap.size, 0, none⟩) hne8 y0).set_ne (a := ⟨w.heap.size, 1, none⟩) hne8 y1).set_ne (a := ⟨w.heap.size, 2, none⟩) hne8 y2).set_ne (a := ⟨w.heap.size, 3, none⟩) hne8 y3).set_ne (a := ⟨w.heap.size, 4, none⟩) hne8 y4).set_ne (a := ⟨w.heap.size, 5, none⟩) hne8 y5); (⟨b11.cell 0, b11.cell 1, b11.cell 2, b11.cell 3, b11.cell 4, b11.cell 5⟩ : ((((((w10.setCell ⟨w.heap.size, 0, none⟩ y0).setCell ⟨w.heap.size, 1, none⟩ y1).setCell ⟨w.heap.size, 2, none⟩ y2).setCell ⟨w.heap.size, 3, none⟩ y3).setCell ⟨w.heap.size, 4, none⟩ y4).setCell ⟨w.heap.size, 5, none⟩ y5).cell? ⟨w7.heap.size, 0, none⟩ = some (.int .i64 cn) ∧ ((((((w10.setCell ⟨w.heap.size, 0, none⟩ y0).setCell ⟨w.heap.size, 1, none⟩ y1).setCell ⟨w.heap.size, 2, none⟩ y2).setCell ⟨w.heap.size, 3, none⟩ y3).setCell ⟨w.heap.size, 4, none⟩ y4).setCell ⟨w.heap.size, 5, none⟩ y5).cell? ⟨w7.heap.size, 1, none⟩ = some (.int .i64 p2) ∧ ((((((w10.setCell ⟨w.heap.size, 0, none⟩ y0).setCell ⟨w.heap.size, 1, none⟩ y1).setCell ⟨w.heap.size, 2, none⟩ y2).setCell ⟨w.heap.size, 3, none⟩ y3).setCell ⟨w.heap.size, 4, none⟩ y4).setCell ⟨w.heap.size, 5, none⟩ y5).cell? ⟨w7.heap.size, 2, none⟩ = some (.slice a31 n31 q31) ∧ ((((((w10.setCell ⟨w.heap.size, 0, none⟩ y0).setCell ⟨w.heap.size, 1, none⟩ y1).setCell ⟨w.heap.size, 2, none⟩ y2).setCell ⟨w.heap.size, 3, none⟩ y3).setCell ⟨w.heap.size, 4, none⟩ y4).setCell ⟨w.heap.size, 5, none⟩ y5).cell? ⟨w7.heap.size, 3, none⟩ = some (.slice a32 n32 q32) ∧ ((((((w10.setCell ⟨w.heap.size, 0, none⟩ y0).setCell ⟨w.heap.size, 1, none⟩ y1).setCell ⟨w.heap.size, 2, none⟩ y2).setCell ⟨w.heap.size, 3, none⟩ y3).setCell ⟨w.heap.size, 4, none⟩ y4).setCell ⟨w.heap.size, 5, none⟩ y5).cell? ⟨w7.heap.size, 4, none⟩ = some (.slice a33 n33 q33) ∧ ((((((w10.setCell ⟨w.heap.size, 0, none⟩ y0).setCell ⟨w.heap.size, 1, none⟩ y1).setCell ⟨w.heap.size, 2, none⟩ y2).setCell ⟨w.heap.size, 3, none⟩ y3).setCell ⟨w.heap.size, 4, none⟩ y4).setCell ⟨w.heap.size, 5, none⟩ y5).cell? ⟨w7.heap.size, 5, none⟩ = some (.slice a34 n34 q34))))
        have HFX := Go.Lib.hid (fun w10 (r2 : Fr (fun b => (Value.slice a20 n20 q20).ownBlock = some b) ((W8.alloc (.cells #[.int .u64 x] 32)).drew) w10) => (⟨r2.blk (fun hb => HGD.out.ne HTD.out.b0 (by decide) _ hb rfl) HTD.out.b0, r2.blk (fun hb => HGD.out.ne HTD.out.b1 (by decide) _ hb rfl) HTD.out.b1, HTD.out.k1.fr2 r2 (fun g hg e => (HO.out g e).2.1 hg), HTD.out.k2.fr2 r2 (fun g hg e => (HO.out g e).2.2.1 hg), HTD.out.k3.fr2 r2 (fun g hg e => (HO.out g e).2.2.2.1 hg), HTD.out.k4.fr2 r2 (fun g hg e => (HO.out g e).2.2.2.2 hg), below_fr HTD.out.hb r2 (Nat.le_refl _) (fun i hi => (HO.out i hi).1)⟩ : ArS w w10 cn p2 (.slice a21 n21 q21) (.slice a22 n22 q22) (.slice a23 n23 q23) (.slice a24 n24 q24) t' u' b' d'))
        have M1 := Go.Lib.hid (show G.length + 1 ≤ maxLen by unfold maxLen; have := HGL.out; omega)
        have M2 := Go.Lib.hid (show (G.length + 1) * 8 ≤ 140737488355328 by have := HGL.out; omega)
        have HSZ := Go.Lib.hid A9.size
        have HX := Go.Lib.hid hx
        have HA8 := Go.Lib.hid A8
        have HK8 := Go.Lib.hid (⟨k31.keep A8, k32.keep A8, k33.keep A8, k34.keep A8⟩ : _ ∧ _ ∧ _ ∧ _)
        have HW8 := Go.Lib.hid hW8
        have l8 := b8.lt
        clear c0 c1 c2 c3 c4 c5 lc
        obtain ⟨c0, c1, c2, c3, c4, c5⟩ := T7.cells
        have lc := T7.b0.lt
        clear T7 G7 hs7 o1 o2 o3 o4 hW8 A8 b8 AL A9 TD GD bD kD1 kD2 kD3 kD4 hx hb7 k31 k32 k33 k34 HDM
        go_wp2_with fail
        rw [← HW8.out]
        clear c0 c1 c2 c3 c4 c5 lc
        go_region_held3 (fun W' => W'.cell? ⟨w7.heap.size, 0, none⟩ = some (.int .i64 cn) ∧ W'.cell? ⟨w7.heap.size, 1, none⟩ = some (.int .i64 p2) ∧ W'.cell? ⟨w7.heap.size, 2, none⟩ = some (.slice a31 n31 q31) ∧ W'.cell? ⟨w7.heap.size, 3, none⟩ = some (.slice a32 n32 q32) ∧ W'.cell? ⟨w7.heap.size, 4, none⟩ = some (.slice a33 n33 q33) ∧ W'.cell? ⟨w7.heap.size, 5, none⟩ = some (.slice a34 n34 q34))
          (first | with_reducible exact HSY.out _ _ _ _ _ _ _ r2 | with_reducible exact HSX.out _ r2 | with_reducible exact HA1.out | exact HA0.out)
          (first | (refine step_append_rows rfl (.tmp 48) (.tmp 50) 27 rfl 32 (.int .u64 0) 1 8 Tryz.underlying27 u64_info rfl (by decide) (.slice a20 n20 q20) G.length (G.map (Value.int .u64)) rfl HGD.out (.slice (some ⟨W8.heap.size, 0, none⟩) 1 1) 1 [.int .u64 x] rfl HLX.out (keys_one [x]) M1.out M2.out ?_; intro y10 w10 r1 r2 r3; (have T10 := HFX.out w10 r2; obtain ⟨x0, x1, x2, x3, x4, x5⟩ := T10.cells; have f0 := T10.b0.frozen 0; have f1 := T10.b0.frozen 1; have f2 := T10.b0.frozen 2; have f3 := T10.b0.frozen 3; have f4 := T10.b0.frozen 4; have f5 := T10.b0.frozen 5; have xl := T10.b0.lt)))
        obtain ⟨a40, q40, rfl⟩ := row_form r1
        have K10 : KL w10 (.slice a40 (G.length + 1) q40) (G ++ [x]) := by
          unfold KL
          rw [List.length_append, List.map_append]
          exact r1
        obtain ⟨W11, hW11⟩ : ∃ W11, W11 = set6 w10 w.heap.size cn p2 (.slice a31 n31 q31) (.slice a32 n32 q32) (.slice a33 n33 q33) (.slice a34 n34 q34) := ⟨_, rfl⟩
        have kE1 := HKD1.out.fr2 r2 (fun g hg e => w1.out g e hg)
        have kE2 := HKD2.out.fr2 r2 (fun g hg e => w2.out g e hg)
        have kE3 := HKD3.out.fr2 r2 (fun g hg e => w3.out g e hg)
        have kE4 := HKD4.out.fr2 r2 (fun g hg e => w4.out g e hg)
        have T11 := T10.put6 cn p2 kE1 kE2 kE3 kE4
        have G11 := T10.side (c' := cn) (p' := p2) (u1 := .slice a31 n31 q31) (u2 := .slice a32 n32 q32) (u3 := .slice a33 n33 q33) (u4 := .slice a34 n34 q34) K10
        rw [← hW11] at T11 G11
        unfold set6 at hW11
        have O11 : ∀ g, (Value.slice a40 (G.length + 1) q40).ownBlock = some g → w.heap.size ≤ g ∧ (Value.slice a31 n31 q31).ownBlock ≠ some g ∧ (Value.slice a32 n32 q32).ownBlock ≠ some g ∧ (Value.slice a33 n33 q33).ownBlock ≠ some g ∧ (Value.slice a34 n34 q34).ownBlock ≠ some g := by
          intro g hg
          rcases r3 g hg with q | q
          · exact ⟨(HO.out g q).1, w1.out g q, w2.out g q, w3.out g q, w4.out g q⟩
          · have z1 := HSZ.out
            have z2 := HA8.out.size
            exact ⟨by omega, (fun e => by have := (HK8.out.1.lt e).1; omega), (fun e => by have := (HK8.out.2.1.lt e).1; omega), (fun e => by have := (HK8.out.2.2.1.lt e).1; omega), (fun e => by have := (HK8.out.2.2.2.lt e).1; omega)⟩
        have HAR := Go.Lib.hid (⟨a31, n31, q31, a32, n32, q32, a33, n33, q33, a34, n34, q34, a40, G.length + 1, q40, rfl, T11, G11, O11⟩ : ArI w W11 cn p2 et eu eb ed (.slice a40 (G.length + 1) q40) (G ++ [x]))
        rw [← hW11]
        clear hW11 T11 G11 O11 K10 T10 r1 r2 r3 kE1 kE2 kE3 kE4 x0 x1 x2 x3 x4 x5 f0 f1 f2 f3 f4 f5 xl
        try go_wp2_with fail
        go_roundg f
        case rel =>
          obtain ⟨z1, z2, z3, z4⟩ := HNX.out
          have hx := HX.out
          refine ⟨et, eu, eb, ed, G ++ [x], (shrA f ⟨cn, p2, et, eu, eb, ed⟩).2, z1, z2, by rw [List.length_append, List.length_singleton]; omega, by rw [HS1.out], ?_, HAR.out⟩
          rw [← HGO.out, HS2.out, hx, List.append_assoc]
        case measure => exact Nat.lt_succ_self f
      have hz : ¬ n22 = 0 := by omega
      · have e : mb = false := by rw [hmb]; simp [hp, hz]
        subst e
        have hz1 : ((n22 : Int) == 0) = false := by simp only [beq_eq_false_iff_ne, ne_eq]; omega
        clear hmb hz
        have TQa := hT.keep (Below.refl wr.heap.size wr).drew
        have ALa := (Below.refl wr.heap.size wr).alloc (Nat.le_refl _) (.cells #[.slice a21 n21 q21, .slice a22 n22 q22] 27)
        have TRa := (hT.keep ALa).keep (Below.refl _ _).drew
        have HAa := Go.Lib.hid TQa.cells
        have HBa := Go.Lib.hid TRa.cells
        have HTRa := Go.Lib.hid TRa
        have HMa := Go.Lib.hid (armany2 a21 a22 n21 q21 n22 q22 wr (by omega))
        have HKa := Go.Lib.hid ((hG.keep ALa).keep (Below.refl _ _).drew)
        clear TQa TRa ALa
        obtain ⟨c0, c1, c2, c3, c4, c5⟩ := hT.cells
        have lc := hT.b0.lt
        clear hT hG
        go_wp2_with fail
        go_region_held3 (fun W' => W'.cell? ⟨w.heap.size, 0, none⟩ = some (.int .i64 cn) ∧ W'.cell? ⟨w.heap.size, 1, none⟩ = some (.int .i64 p2) ∧ W'.cell? ⟨w.heap.size, 2, none⟩ = some (.slice a21 n21 q21) ∧ W'.cell? ⟨w.heap.size, 3, none⟩ = some (.slice a22 n22 q22) ∧ W'.cell? ⟨w.heap.size, 4, none⟩ = some (.slice a23 n23 q23) ∧ W'.cell? ⟨w.heap.size, 5, none⟩ = some (.slice a24 n24 q24))
          (first | with_reducible exact HBa.out | exact HAa.out)
          (first | (go_at_call 68; refine HMa.out.mono ?_; rintro e w' ⟨rfl, rfl⟩))
        obtain ⟨W9, hWa⟩ : ∃ W9, W9 = (wr.alloc (.cells #[.slice a21 n21 q21, .slice a22 n22 q22] 27)).drew := ⟨_, rfl⟩
        have T9 := HTRa.out
        rw [← hWa] at T9
        have hG9 := HKa.out
        rw [← hWa] at hG9
        clear HKa
        rw [← hWa]
        clear hWa HAa HBa HMa HTRa
        clear c0 c1 c2 c3 c4 c5 lc
        have HDM := Go.Lib.hid (HDX.out W9 T9.k1 T9.k2 T9.k3 T9.k4)
        have HT9 := Go.Lib.hid T9
        have HG9 := Go.Lib.hid hG9
        obtain ⟨c0, c1, c2, c3, c4, c5⟩ := T9.cells
        have lc := T9.b0.lt
        clear T9 hG9
        go_wp2_with fail
        refine HDM.out.mono ?_
        rintro e w7 ⟨a31, n31, q31, a32, n32, q32, a33, n33, q33, a34, n34, q34, x, rfl, k31, k32, k33, k34, hx, hb7, o1, o2, o3, o4⟩
        have T7 := HT9.out.keep hb7
        have G7 := HG9.out.keep hb7
        have hs7 := hb7.size
        have w1 := Go.Lib.hid (show ∀ g, (Value.slice a20 n20 q20).ownBlock = some g → (Value.slice a31 n31 q31).ownBlock ≠ some g from fun g hg e => (o1 g e).elim (fun e' => (HO.out g hg).2.1 e') (fun e' => by have := (HG9.out.lt hg).1; omega))
        have w2 := Go.Lib.hid (show ∀ g, (Value.slice a20 n20 q20).ownBlock = some g → (Value.slice a32 n32 q32).ownBlock ≠ some g from fun g hg e => (o2 g e).elim (fun e' => (HO.out g hg).2.2.1 e') (fun e' => by have := (HG9.out.lt hg).1; omega))
        have w3 := Go.Lib.hid (show ∀ g, (Value.slice a20 n20 q20).ownBlock = some g → (Value.slice a33 n33 q33).ownBlock ≠ some g from fun g hg e => (o3 g e).elim (fun e' => (HO.out g hg).2.2.2.1 e') (fun e' => by have := (HG9.out.lt hg).1; omega))
        have w4 := Go.Lib.hid (show ∀ g, (Value.slice a20 n20 q20).ownBlock = some g → (Value.slice a34 n34 q34).ownBlock ≠ some g from fun g hg e => (o4 g e).elim (fun e' => (HO.out g hg).2.2.2.2 e') (fun e' => by have := (HG9.out.lt hg).1; omega))
        obtain ⟨W8, hW8⟩ : ∃ W8, W8 = w7.alloc (.cells #[.int .i64 cn, .int .i64 p2, .slice a31 n31 q31, .slice a32 n32 q32, .slice a33 n33 q33, .slice a34 n34 q34] 55) := ⟨_, rfl⟩
        have A8 : Below w7.heap.size w7 W8 := by rw [hW8]; exact (Below.refl _ _).alloc (Nat.le_refl _) _
        have b8 : Blk W8 w7.heap.size (arC cn p2 (.slice a31 n31 q31) (.slice a32 n32 q32) (.slice a33 n33 q33) (.slice a34 n34 q34)) 55 := by rw [hW8]; exact Blk.new0 w7 _ _
        have hB8 := T7.b1.lt
        have hne8 : w7.heap.size ≠ w.heap.size := by omega
        have AL := ((Below.refl W8.heap.size W8).alloc (Nat.le_refl _) (.cells #[.int .u64 x] 32))
        have A9 := AL.trans ((Below.refl _ _).drew.mono AL.size)
        have TD := (T7.keep A8).keep A9
        have GD := (G7.keep A8).keep A9
        have bD := b8.keep A9
        have kD1 := (k31.keep A8).keep A9
        have kD2 := (k32.keep A8).keep A9
        have kD3 := (k33.keep A8).keep A9
        have kD4 := (k34.keep A8).keep A9
        have HLX := Go.Lib.hid ((KL.lit W8 x).keep (Below.refl _ _).drew)
        have HGD := Go.Lib.hid GD
        have HBD := Go.Lib.hid bD
        have HTD := Go.Lib.hid TD
        have HKD1 := Go.Lib.hid kD1
        have HKD2 := Go.Lib.hid kD2
        have HKD3 := Go.Lib.hid kD3
        have HKD4 := Go.Lib.hid kD4
        have HA0 := Go.Lib.hid ((⟨b8.drew.cell 0, b8.drew.cell 1, b8.drew.cell 2, b8.drew.cell 3, b8.drew.cell 4, b8.drew.cell 5⟩ : W8.drew.cell? ⟨w7.heap.size, 0, none⟩ = some (.int .i64 cn) ∧ W8.drew.cell? ⟨w7.heap.size, 1, none⟩ = some (.int .i64 p2) ∧ W8.drew.cell? ⟨w7.heap.size, 2, none⟩ = some (.slice a31 n31 q31) ∧ W8.drew.cell? ⟨w7.heap.size, 3, none⟩ = some (.slice a32 n32 q32) ∧ W8.drew.cell? ⟨w7.heap.size, 4, none⟩ = some (.slice a33 n33 q33) ∧ W8.drew.cell? ⟨w7.heap.size, 5, none⟩ = some (.slice a34 n34 q34)))
        have HA1 := Go.Lib.hid ((⟨bD.cell 0, bD.cell 1, bD.cell 2, bD.cell 3, bD.cell 4, bD.cell 5⟩ : (W8.alloc (.cells #[.int .u64 x] 32)).drew.cell? ⟨w7.heap.size, 0, none⟩ = some (.int .i64 cn) ∧ (W8.alloc (.cells #[.int .u64 x] 32)).drew.cell? ⟨w7.heap.size, 1, none⟩ = some (.int .i64 p2) ∧ (W8.alloc (.cells #[.int .u64 x] 32)).drew.cell? ⟨w7.heap.size, 2, none⟩ = some (.slice a31 n31 q31) ∧ (W8.alloc (.cells #[.int .u64 x] 32)).drew.cell? ⟨w7.heap.size, 3, none⟩ = some (.slice a32 n32 q32) ∧ (W8.alloc (.cells #[.int .u64 x] 32)).drew.cell? ⟨w7.heap.size, 4, none⟩ = some (.slice a33 n33 q33) ∧ (W8.alloc (.cells #[.int .u64 x] 32)).drew.cell? ⟨w7.heap.size, 5, none⟩ = some (.slice a34 n34 q34)))
        have HSX := Go.Lib.hid (fun w10 (r2 : Fr (fun b => (Value.slice a20 n20 q20).ownBlock = some b) ((W8.alloc (.cells #[.int .u64 x] 32)).drew) w10) => (have b10 := r2.blk (fun hb => HGD.out.ne HBD.out (by decide) _ hb rfl) HBD.out; (⟨b10.cell 0, b10.cell 1, b10.cell 2, b10.cell 3, b10.cell 4, b10.cell 5⟩ : w10.cell? ⟨w7.heap.size, 0, none⟩ = some (.int .i64 cn) ∧ w10.cell? ⟨w7.heap.size, 1, none⟩ = some (.int .i64 p2) ∧ w10.cell? ⟨w7.heap.size, 2, none⟩ = some (.slice a31 n31 q31) ∧ w10.cell? ⟨w7.heap.size, 3, none⟩ = some (.slice a32 n32 q32) ∧ w10.cell? ⟨w7.heap.size, 4, none⟩ = some (.slice a33 n33 q33) ∧ w10.cell? ⟨w7.heap.size, 5, none⟩ = some (.slice a34 n34 q34))))
        have HSY := Go.Lib.hid (fun w10 y0 y1 y2 y3 y4 y5 (r2 : Fr (fun b => (Value.slice a20 n20 q20).ownBlock = some b) ((W8.alloc (.cells #[.int .u64 x] 32)).drew) w10) => (have b10 := r2.blk (fun hb => HGD.out.ne HBD.out (by decide) _ hb rfl) HBD.out; have b11 := ((((((b10.set_ne (a := ⟨w.heap.size, 0, none⟩) hne8 y0).set_ne (a := ⟨w.heap.size, 1, none⟩) hne8 y1).set_ne (a := ⟨w.heap.size, 2, none⟩) hne8 y2).set_ne (a := ⟨w.heap.size, 3, none⟩) hne8 y3).set_ne (a := ⟨w.heap.size, 4, none⟩) hne8 y4).set_ne (a := ⟨w.heap.size, 5, none⟩) hne8 y5); (⟨b11.cell 0, b11.cell 1, b11.cell 2, b11.cell 3, b11.cell 4, b11.cell 5⟩ : ((((((w10.setCell ⟨w.heap.size, 0, none⟩ y0).setCell ⟨w.heap.size, 1, none⟩ y1).setCell ⟨w.heap.size, 2, none⟩ y2).setCell ⟨w.heap.size, 3, none⟩ y3).setCell ⟨w.heap.size, 4, none⟩ y4).setCell ⟨w.heap.size, 5, none⟩ y5).cell? ⟨w7.heap.size, 0, none⟩ = some (.int .i64 cn) ∧ ((((((w10.setCell ⟨w.heap.size, 0, none⟩ y0).setCell ⟨w.heap.size, 1, none⟩ y1).setCell ⟨w.heap.size, 2, none⟩ y2).setCell ⟨w.heap.size, 3, none⟩ y3).setCell ⟨w.heap.size, 4, none⟩ y4).setCell ⟨w.heap.size, 5, none⟩ y5).cell? ⟨w7.heap.size, 1, none⟩ = some (.int .i64 p2) ∧ ((((((w10.setCell ⟨w.heap.size, 0, none⟩ y0).setCell ⟨w.heap.size, 1, none⟩ y1).setCell ⟨w.heap.size, 2, none⟩ y2).setCell ⟨w.heap.size, 3, none⟩ y3).setCell ⟨w.heap.size, 4, none⟩ y4).setCell ⟨w.heap.size, 5, none⟩ y5).cell? ⟨w7.heap.size, 2, none⟩ = some (.slice a31 n31 q31) ∧ ((((((w10.setCell ⟨w.heap.size, 0, none⟩ y0).setCell ⟨w.heap.size, 1, none⟩ y1).setCell ⟨w.heap.size, 2, none⟩ y2).setCell ⟨w.heap.size, 3, none⟩ y3).setCell ⟨w.heap.size, 4, none⟩ y4).setCell ⟨w.heap.size, 5, none⟩ y5).cell? ⟨w7.heap.size, 3, none⟩ = some (.slice a32 n32 q32) ∧ ((((((w10.setCell ⟨w.heap.size, 0, none⟩ y0).setCell ⟨w.heap.size, 1, none⟩ y1).setCell ⟨w.heap.size, 2, none⟩ y2).setCell ⟨w.heap.size, 3, none⟩ y3).setCell ⟨w.heap.size, 4, none⟩ y4).setCell ⟨w.heap.size, 5, none⟩ y5).cell? ⟨w7.heap.size, 4, none⟩ = some (.slice a33 n33 q33) ∧ ((((((w10.setCell ⟨w.heap.size, 0, none⟩ y0).setCell ⟨w.heap.size, 1, none⟩ y1).setCell ⟨w.heap.size, 2, none⟩ y2).setCell ⟨w.heap.size, 3, none⟩ y3).setCell ⟨w.heap.size, 4, none⟩ y4).setCell ⟨w.heap.size, 5, none⟩ y5).cell? ⟨w7.heap.size, 5, none⟩ = some (.slice a34 n34 q34))))
        have HFX := Go.Lib.hid (fun w10 (r2 : Fr (fun b => (Value.slice a20 n20 q20).ownBlock = some b) ((W8.alloc (.cells #[.int .u64 x] 32)).drew) w10) => (⟨r2.blk (fun hb => HGD.out.ne HTD.out.b0 (by decide) _ hb rfl) HTD.out.b0, r2.blk (fun hb => HGD.out.ne HTD.out.b1 (by decide) _ hb rfl) HTD.out.b1, HTD.out.k1.fr2 r2 (fun g hg e => (HO.out g e).2.1 hg), HTD.out.k2.fr2 r2 (fun g hg e => (HO.out g e).2.2.1 hg), HTD.out.k3.fr2 r2 (fun g hg e => (HO.out g e).2.2.2.1 hg), HTD.out.k4.fr2 r2 (fun g hg e => (HO.out g e).2.2.2.2 hg), below_fr HTD.out.hb r2 (Nat.le_refl _) (fun i hi => (HO.out i hi).1)⟩ : ArS w w10 cn p2 (.slice a21 n21 q21) (.slice a22 n22 q22) (.slice a23 n23 q23) (.slice a24 n24 q24) t' u' b' d'))
        have M1 := Go.Lib.hid (show G.length + 1 ≤ maxLen by unfold maxLen; have := HGL.out; omega)
        have M2 := Go.Lib.hid (show (G.length + 1) * 8 ≤ 140737488355328 by have := HGL.out; omega)
        have HSZ := Go.Lib.hid A9.size
        have HX := Go.Lib.hid hx
        have HA8 := Go.Lib.hid A8
        have HK8 := Go.Lib.hid (⟨k31.keep A8, k32.keep A8, k33.keep A8, k34.keep A8⟩ : _ ∧ _ ∧ _ ∧ _)
        have HW8 := Go.Lib.hid hW8
        have l8 := b8.lt
        clear c0 c1 c2 c3 c4 c5 lc
        obtain ⟨c0, c1, c2, c3, c4, c5⟩ := T7.cells
        have lc := T7.b0.lt
        clear T7 G7 hs7 o1 o2 o3 o4 hW8 A8 b8 AL A9 TD GD bD kD1 kD2 kD3 kD4 hx hb7 k31 k32 k33 k34 HDM
        go_wp2_with fail
        rw [← HW8.out]
        clear c0 c1 c2 c3 c4 c5 lc
        go_region_held3 (fun W' => W'.cell? ⟨w7.heap.size, 0, none⟩ = some (.int .i64 cn) ∧ W'.cell? ⟨w7.heap.size, 1, none⟩ = some (.int .i64 p2) ∧ W'.cell? ⟨w7.heap.size, 2, none⟩ = some (.slice a31 n31 q31) ∧ W'.cell? ⟨w7.heap.size, 3, none⟩ = some (.slice a32 n32 q32) ∧ W'.cell? ⟨w7.heap.size, 4, none⟩ = some (.slice a33 n33 q33) ∧ W'.cell? ⟨w7.heap.size, 5, none⟩ = some (.slice a34 n34 q34))
          (first | with_reducible exact HSY.out _ _ _ _ _ _ _ r2 | with_reducible exact HSX.out _ r2 | with_reducible exact HA1.out | exact HA0.out)
          (first | (refine step_append_rows rfl (.tmp 48) (.tmp 50) 27 rfl 32 (.int .u64 0) 1 8 Tryz.underlying27 u64_info rfl (by decide) (.slice a20 n20 q20) G.length (G.map (Value.int .u64)) rfl HGD.out (.slice (some ⟨W8.heap.size, 0, none⟩) 1 1) 1 [.int .u64 x] rfl HLX.out (keys_one [x]) M1.out M2.out ?_; intro y10 w10 r1 r2 r3; (have T10 := HFX.out w10 r2; obtain ⟨x0, x1, x2, x3, x4, x5⟩ := T10.cells; have f0 := T10.b0.frozen 0; have f1 := T10.b0.frozen 1; have f2 := T10.b0.frozen 2; have f3 := T10.b0.frozen 3; have f4 := T10.b0.frozen 4; have f5 := T10.b0.frozen 5; have xl := T10.b0.lt)))
        obtain ⟨a40, q40, rfl⟩ := row_form r1
        have K10 : KL w10 (.slice a40 (G.length + 1) q40) (G ++ [x]) := by
          unfold KL
          rw [List.length_append, List.map_append]
          exact r1
        obtain ⟨W11, hW11⟩ : ∃ W11, W11 = set6 w10 w.heap.size cn p2 (.slice a31 n31 q31) (.slice a32 n32 q32) (.slice a33 n33 q33) (.slice a34 n34 q34) := ⟨_, rfl⟩
        have kE1 := HKD1.out.fr2 r2 (fun g hg e => w1.out g e hg)
        have kE2 := HKD2.out.fr2 r2 (fun g hg e => w2.out g e hg)
        have kE3 := HKD3.out.fr2 r2 (fun g hg e => w3.out g e hg)
        have kE4 := HKD4.out.fr2 r2 (fun g hg e => w4.out g e hg)
        have T11 := T10.put6 cn p2 kE1 kE2 kE3 kE4
        have G11 := T10.side (c' := cn) (p' := p2) (u1 := .slice a31 n31 q31) (u2 := .slice a32 n32 q32) (u3 := .slice a33 n33 q33) (u4 := .slice a34 n34 q34) K10
        rw [← hW11] at T11 G11
        unfold set6 at hW11
        have O11 : ∀ g, (Value.slice a40 (G.length + 1) q40).ownBlock = some g → w.heap.size ≤ g ∧ (Value.slice a31 n31 q31).ownBlock ≠ some g ∧ (Value.slice a32 n32 q32).ownBlock ≠ some g ∧ (Value.slice a33 n33 q33).ownBlock ≠ some g ∧ (Value.slice a34 n34 q34).ownBlock ≠ some g := by
          intro g hg
          rcases r3 g hg with q | q
          · exact ⟨(HO.out g q).1, w1.out g q, w2.out g q, w3.out g q, w4.out g q⟩
          · have z1 := HSZ.out
            have z2 := HA8.out.size
            exact ⟨by omega, (fun e => by have := (HK8.out.1.lt e).1; omega), (fun e => by have := (HK8.out.2.1.lt e).1; omega), (fun e => by have := (HK8.out.2.2.1.lt e).1; omega), (fun e => by have := (HK8.out.2.2.2.lt e).1; omega)⟩
        have HAR := Go.Lib.hid (⟨a31, n31, q31, a32, n32, q32, a33, n33, q33, a34, n34, q34, a40, G.length + 1, q40, rfl, T11, G11, O11⟩ : ArI w W11 cn p2 et eu eb ed (.slice a40 (G.length + 1) q40) (G ++ [x]))
        rw [← hW11]
        clear hW11 T11 G11 O11 K10 T10 r1 r2 r3 kE1 kE2 kE3 kE4 x0 x1 x2 x3 x4 x5 f0 f1 f2 f3 f4 f5 xl
        try go_wp2_with fail
        go_roundg f
        case rel =>
          obtain ⟨z1, z2, z3, z4⟩ := HNX.out
          have hx := HX.out
          refine ⟨et, eu, eb, ed, G ++ [x], (shrA f ⟨cn, p2, et, eu, eb, ed⟩).2, z1, z2, by rw [List.length_append, List.length_singleton]; omega, by rw [HS1.out], ?_, HAR.out⟩
          rw [← HGO.out, HS2.out, hx, List.append_assoc]
        case measure => exact Nat.lt_succ_self f
end Go.Proofs.YtlakojncjldpbaaGreat
