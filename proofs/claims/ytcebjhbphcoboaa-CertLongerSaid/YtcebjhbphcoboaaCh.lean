/- Certificates: the bytes of one: plain words; Bytes. A walk by hand. -/
import Derived.Test.YtcebjhbphcoboaaCe
import Derived.Test.YtcebjhbphcoboaaPut
import Derived.Test.YtcebjhbphcoboaaCn28
import Derived.Test.YtcebjhbphcoboaaCn60
import Derived.Test.YtcebjhbphcoboaaLab
namespace Go.Proofs.Ytcebjhbphcoboaa.Crt
open Go Go.RowKit Go.Proofs.Ytcebjhbphcoboaa.C Go.Proofs.Ytcebjhbphcoboaa.Hlp Go.Proofs.YtcebjhbphcoboaaW.PrintWords Go.Proofs.YtcebjhbphcoboaaW.PrintLast Go.Proofs.YtcebjhbphcoboaaW.PrintMore Go.Proofs.Ytcebjhbphcoboaa.Aid
attribute [local go_sem] max2_int min2_int max_two min_two
set_option linter.unusedVariables false
set_option linter.unusedSimpArgs false
/-- A literal's number. -/
def numbL (x : Int) : Int := if x < 0 then -2 * x + 1 else 2 * x
def coreNs : Int → List Int → List Int
  | _, [] => []
  | last, p :: ps => (p - last) :: coreNs p ps
def stepNs (s : S95) : List Int := s.f0 :: (s.f1.length : Int) :: s.f1.map numbL
def certNs (core : List Int) (steps : List S95) : List Int := (core.length : Int) :: (coreNs 0 core ++ ((steps.length : Int) :: steps.flatMap stepNs))
def putsP (ns : List Int) : List Int := ns.flatMap putP
def bytesP (core : List Int) (steps : List S95) : List Int := [70, 67] ++ putsP (certNs core steps)
theorem lit_facts (w1 : World) : Below w1.heap.size w1 (Lab.litWorld w1 5 #[.int .u8 70, .int .u8 67]) ∧ (Lab.litWorld w1 5 #[.int .u8 70, .int .u8 67]).cell? ⟨w1.heap.size, 0, none⟩ = some (.int .u8 70) ∧ (Lab.litWorld w1 5 #[.int .u8 70, .int .u8 67]).cell? ⟨w1.heap.size, 1, none⟩ = some (.int .u8 67) := by
  refine ⟨⟨rfl, rfl, rfl, by rw [Lab.lit_size]; omega, fun k hk => Lab.lit_old w1 5 _ k hk⟩, ?_, ?_⟩
  · simp [World.cell?, Lab.lit_new]
  · simp [World.cell?, Lab.lit_new]
section
variable {P : Program} {w : World} {ops : Array Oper} {o : Oper} {a : Act} {Q : Exit → Act → World → Prop}
/-- An append that outgrows its row. -/
theorem wpList_append_grows {rest : List Oper} (hgd : o.guard = none) (s x : Operand) (t : TypeId) (ho : o.op = .call { callee := .builtin .append, args := #[s, x], argTypes := #[t, t] })
    (e : TypeId) (i : TypeInfo) (z : Value) (bytes : Nat) (ht : P.underlying t = some (.slice e)) (hi : P.info? e = some i) (hz : i.zero = some z) (hsize : i.size = 1) (hby : i.bytes = bytes) (hzs : z.cells.size = 1)
    (b : Addr) (n cap : Nat) (olds : List Value) (hs : a.eval s = .slice (some b) n cap) (hlo : olds.length = n) (holds : ∀ j u, olds[j]? = some u → w.cell? (b.add j) = some u)
    (ad : Addr) (m c : Nat) (news : List Value) (hx : a.eval x = .slice (some ad) m c) (hl : news.length = m) (hnews : ∀ j u, news[j]? = some u → w.cell? (ad.add j) = some u)
    (hg : cap < n + m) (h63 : n + m ≤ maxLen) (hbytes : (n + m) * bytes ≤ 140737488355328)
    (h : ∀ v' w', w'.ownsRow w.heap.size e 1 v' (n + m) (olds ++ news) → w.grownBy w' none → wpList P ops Q rest (a.put o.dst v') w') : wpList P ops Q (o :: rest) a w :=
  wpList_plain hgd fun K hK => by
    obtain ⟨v', w', hr, h2, h3⟩ := run_append_arg_grows (P := P) w t o.type e i z 1 bytes ht hi hz hsize hby hzs (by decide) b n cap olds (by omega) holds ad m c news (by omega) hnews hg h63 hbytes
    unfold Oper.wp execOp
    simp only [ho, resolve, invoke, builtin, Sem.run_bind, Sem.run_pure, Result.andThen_ok, List.map_toArray, List.map_cons, List.map_nil, hs, hx, hr]
    exact hK _ _ (h v' w' h2 h3)
end
theorem put_calls (v : Int) (h0 : 0 ≤ v) (h1 : v < 4294967296) (W : World) : Calls Try.prog 59 #[.int .u32 v] W fun e w' => ∃ u, e = .returned u ∧ w'.ownsRow W.heap.size 5 1 u (putP v).length (byts (putP v)) ∧ Below W.heap.size W w' := by
  obtain ⟨k, hk⟩ := (put_ev v h0 h1).rounds
  refine (cert_Put.calls k v _ W hk).mono ?_
  rintro e w' ⟨u, rfl, hR, hB⟩
  exact ⟨u, rfl, own_of_Rb hR, hB⟩
theorem putN_len : ∀ m (v : Int) (acc : List Int), 1 ≤ m → acc.length + 1 ≤ (putN m v acc).length ∧ (putN m v acc).length ≤ acc.length + m := by
  intro m
  induction m with
  | zero => intro v acc h; omega
  | succ m ih =>
    intro v acc h
    rw [putN]
    split
    · rcases Nat.eq_zero_or_pos m with e | e
      · subst e; rw [putN]; simp
      · have := ih (v / 128) (acc ++ [v % 128 + 128]) e
        rw [List.length_append, List.length_singleton] at this
        omega
    · simp
theorem putP_len (v : Int) : 1 ≤ (putP v).length ∧ (putP v).length ≤ 5 := by
  have := putN_len 5 v [] (by omega)
  simpa [putP] using this
theorem byts_len (l : List Int) : (byts l).length = l.length := by simp [byts]
theorem byts_one (l : List Int) : ∀ u ∈ byts l, u.oneCell' = true := by
  intro u hu
  simp only [byts, List.mem_map] at hu
  obtain ⟨x, _, rfl⟩ := hu
  rfl
theorem byt_cat {W1 : World} {base : Nat} {v' : Value} {xs ys : List Int} (h : W1.ownsRow base 5 1 v' (xs.length + ys.length) (byts xs ++ byts ys)) : W1.ownsRow base 5 1 v' (xs ++ ys).length (byts (xs ++ ys)) := by
  simpa [byts] using h
/-- Put's bytes, as what is appended. -/
theorem put_row (v : Int) (h0 : 0 ≤ v) (h1 : v < 4294967296) (W : World) : Calls Try.prog 59 #[.int .u32 v] W fun e w' => ∃ g c, e = .returned (.slice (some ⟨g, 0, none⟩) (putP v).length c) ∧ (∀ j u, (byts (putP v))[j]? = some u → w'.cell? ((⟨g, 0, none⟩ : Addr).add j) = some u) ∧ Below W.heap.size W w' := by
  refine (put_calls v h0 h1 W).mono ?_
  rintro e w' ⟨u, rfl, ho, hB⟩
  obtain ⟨p, c, rfl⟩ := Hlp.own_slice ho
  obtain ⟨g, rfl⟩ := Hlp.addr_of ho (putP_len v).1
  exact ⟨g, c, rfl, ho.cells (g := g) rfl, hB⟩
theorem lit_news {w2 w3 : World} {b : Nat} (y0 : w2.cell? ⟨b, 0, none⟩ = some (.int .u8 70)) (y1 : w2.cell? ⟨b, 1, none⟩ = some (.int .u8 67)) (hB : Below w2.heap.size w2 w3) : ∀ j u, (byts [70, 67])[j]? = some u → w3.cell? ((⟨b, 0, none⟩ : Addr).add j) = some u := by
  intro j u hj
  rw [show (⟨b, 0, none⟩ : Addr).add j = ⟨b, j, none⟩ by unfold Addr.add; split <;> simp_all]
  match j, hj with
  | 0, hj => obtain rfl := Option.some.inj hj; exact cell_below y0 hB
  | 1, hj => obtain rfl := Option.some.inj hj; exact cell_below y1 hB
theorem rd_nat (l : List Int) (n : Nat) (h : n < l.length) : rd l (n : Int) = l[n] := by rw [rd_of (by omega) (by omega)]; rfl
theorem coreNs_drop (last : Int) (core : List Int) (n : Nat) (h : n < core.length) : coreNs last (core.drop n) = (rd core n - last) :: coreNs (rd core n) (core.drop (n + 1)) := by
  rw [List.drop_eq_getElem_cons h, coreNs, rd_nat core n h]
theorem puts_cons (v : Int) (l : List Int) : putsP (v :: l) = putP v ++ putsP l := rfl
theorem puts_app (l m : List Int) : putsP (l ++ m) = putsP l ++ putsP m := by simp [putsP]
theorem rd95_nat (l : List S95) (n : Nat) (h : n < l.length) : rd_T95 l (n : Int) = l[n] := by
  unfold rd_T95
  rw [Int.toNat_natCast]
  simp [List.getD_eq_getElem?_getD, List.getElem?_eq_getElem h]
theorem number_calls (x : Int) (h0 : -16777216 ≤ x) (h1 : x ≤ 16777216) (W : World) : Calls Try.prog 60 #[.int .i64 x] W fun e w' => e = .returned (.int .u32 (numbL x)) ∧ Below W.heap.size W w' := by
  refine (cert_number.calls x (numbL x) W ?_).mono fun e w' h => ⟨h.1, h.2.below⟩
  unfold cert_number.f numbL
  split
  · rw [wrap64_in (x := -2 * x) (by omega) (by omega), wrap64_in (by omega) (by omega)]; congr 1; omega
  · rw [wrap64_in (by omega) (by omega)]; congr 1; omega
theorem numbL_in (x : Int) (h0 : -16777216 ≤ x) (h1 : x ≤ 16777216) : 0 ≤ numbL x ∧ numbL x < 4294967296 := by
  unfold numbL; split <;> omega
theorem steps_drop (steps : List S95) (j : Nat) (h : j < steps.length) (acc : List Int) : acc ++ putsP ((steps.drop j).flatMap stepNs) = acc ++ putP (rd_T95 steps j).f0 ++ putP ((rd_T95 steps j).f1.length : Int) ++ putsP (((rd_T95 steps j).f1.drop 0).map numbL) ++ putsP ((steps.drop (j + 1)).flatMap stepNs) := by
  rw [List.drop_eq_getElem_cons h, rd95_nat steps j h, List.flatMap_cons]
  unfold stepNs
  simp only [puts_app, List.cons_append, puts_cons, List.append_assoc, List.drop_zero]
theorem lits_drop (C : List Int) (i : Nat) (h : i < C.length) : putsP ((C.drop i).map numbL) = putP (numbL (rd C i)) ++ putsP ((C.drop (i + 1)).map numbL) := by
  rw [List.drop_eq_getElem_cons h, rd_nat C i h, List.map_cons, puts_cons]
set_option maxHeartbeats 4000000 in
set_option maxRecDepth 100000 in
theorem bytes_calls (k : Nat) (w : World) {A0 A1 : Option Addr} {c0 c1 : Nat} {core : List Int} {steps : List S95} (h0 : Kd.C (Kd.int .i64) w A0 core.length core) (hc0 : core.length ≤ c0) (h1 : Kd.C k95 w A1 steps.length steps) (hc1 : steps.length ≤ c1)
    (hg : cert_Good.f k core steps = some true) (hns : ∀ v ∈ certNs core steps, 0 ≤ v ∧ v < 4294967296) (hT : (bytesP core steps).length ≤ 1000000) (hlc : core.length ≤ 1000000) (hls : steps.length ≤ 1000000) (hlC : ∀ s ∈ steps, s.f1.length ≤ 1000000 ∧ ∀ x ∈ s.f1, -16777216 ≤ x ∧ x ≤ 16777216) :
    Calls Try.prog 27 #[.agg #[.slice A0 core.length c0, .slice A1 steps.length c1]] w fun e w' => ∃ u, e = .returned (.tuple #[u, .int .i64 0]) ∧ w'.ownsRow w.heap.size 5 1 u (bytesP core steps).length (byts (bytesP core steps)) ∧ Below w.heap.size w w' := by
  obtain ⟨i0, hi, hz0, hz1, hz2⟩ := info_parts infoB'
  have hBx : Below w.heap.size w (w.alloc (.cells #[.slice A0 core.length c0, .slice A1 steps.length c1] 52)) := (Below.refl _ _).alloc (Nat.le_refl _) _
  have hx := blk_new w (.cells #[.slice A0 core.length c0, .slice A1 steps.length c1] 52)
  have h0' := Kd.C_below h0 hBx
  have h1' := Kd.C_below h1 hBx
  generalize hWb : w.alloc (.cells #[.slice A0 core.length c0, .slice A1 steps.length c1] 52) = Wb at hBx hx h0' h1'
  have HWb := Aside0.mk hWb
  clear hWb
  have z0 := cell_far hx 0 (.slice A0 core.length c0) rfl
  have z1 := cell_far hx 1 (.slice A1 steps.length c1) rfl
  have hgood := cert_Good.calls k A0 c0 core A1 c1 steps true Wb h0' hc0 h1' hc1 hg
  go_enter Try.func27, Try.ntmps27
  go_wp2_with fail
  rw [HWb.out]
  go_wp2_with (first
    | (go_at_call 28; with_reducible refine hgood.mono ?_; rintro e1 w1 ⟨rfl, hB1⟩; have z01 := cell_below z0 hB1; have z11 := cell_below z1 hB1))
  rw [Lab.run_convert_lit 22 5 _ _ _ Try.underlying22 Try.underlying5]
  obtain ⟨hBl, y0, y1⟩ := lit_facts w1
  generalize Lab.litWorld w1 5 #[.int .u8 70, .int .u8 67] = w2 at hBl y0 y1 ⊢
  have hB2 := hB1.trans (hBl.mono hB1.size)
  have z02 := cell_below z01 hBl
  have hP0 := hns (core.length : Int) (List.mem_cons_self ..)
  have hpc := put_row (core.length : Int) hP0.1 hP0.2 w2
  have hpl := putP_len (core.length : Int)
  have hl5 : 2 + (putP (core.length : Int)).length ≤ maxLen := by unfold maxLen; omega
  have hl6 : (2 + (putP (core.length : Int)).length) * 1 ≤ 140737488355328 := by omega
  have hl7 : 2 < 2 + (putP (core.length : Int)).length := by omega
  go_wp2_with (first
    | (go_at_call 59; with_reducible refine hpc.mono ?_; rintro e3 w3 ⟨g3, c3, rfl, hn3, hB3⟩; have hBb3 := hB2.trans (hB3.mono hB2.size); have z03 := cell_below z02 hB3; have hn23 := lit_news y0 y1 hB3)
    | (at_builtin; refine wpList_append_grows rfl _ _ 22 rfl 5 i0 (.int .u8 0) 1 Try.underlying22 hi hz0 hz1 hz2 rfl ⟨w1.heap.size, 0, none⟩ 2 2 (byts [70, 67]) rfl rfl hn23 ⟨g3, 0, none⟩ (putP (core.length : Int)).length c3 (byts (putP (core.length : Int))) rfl (byts_len _) hn3 hl7 hl5 hl6 ?_; intro v4 w4 hown4 hgrow4; have hB4 : Below Wb.heap.size Wb w4 := hBb3.grown hgrow4 hBb3.size (by intro q e; cases e); have z04 := cell_below z0 hB4))
  have hown4' := Hlp.own_base (byt_cat hown4) hBb3.size
  have hT4 : ([70, 67] ++ putP (core.length : Int)) ++ putsP (coreNs 0 (core.drop 0)) ++ putsP ((steps.length : Int) :: steps.flatMap stepNs) = bytesP core steps := by
    unfold bytesP certNs
    simp only [List.drop_zero, puts_cons, puts_app, List.append_assoc]
  have hns4 : ∀ v ∈ coreNs 0 (core.drop 0), 0 ≤ v ∧ v < 4294967296 := fun v hv => hns v (List.mem_cons_of_mem _ (List.mem_append_left _ hv))
  have HT := Aside0.mk hT
  have HT4 := Aside0.mk hT4
  have HNS := Aside0.mk hns
  have HNS4 := Aside0.mk hns4
  clear hT hT4 hns hns4 hpc hpl hl5 hl6 hl7 hn3 hn23 z03 hP0 y0 y1 z02 z01 z11 hgood hown4 hgrow4
  go_loopw [4, 5, 27] (fun v4 v5 v27 wr => ∃ (n : Nat) (last : Int) (acc : List Int), n ≤ core.length ∧ v27 = .int .i64 n ∧ v5 = .int .i64 last ∧ Aside0 (acc ++ putsP (coreNs last (core.drop n)) ++ putsP ((steps.length : Int) :: steps.flatMap stepNs) = bytesP core steps) ∧ Aside0 (∀ v ∈ coreNs last (core.drop n), 0 ≤ v ∧ v < 4294967296) ∧ wr.ownsRow Wb.heap.size 5 1 v4 acc.length (byts acc) ∧ Below Wb.heap.size Wb wr)
    (fun _ _ v27 _ => core.length - (intOf v27).toNat)
  case atStart => exact ⟨0, 0, _, Nat.zero_le _, rfl, rfl, HT4, HNS4, hown4', hB4⟩
  case round =>
    obtain ⟨n, last, acc, hn, rfl, rfl, HA, HN, hown, hB⟩ := hrel
    obtain ⟨p5, c5, rfl⟩ := Hlp.own_slice hown
    by_cases hn1 : n < core.length
    · have hnI : (n : Int) < (core.length : Int) := by omega
      have hn0 : (0 : Int) ≤ (n : Int) := by omega
      obtain ⟨ad, rfl, hc5⟩ := Kd.at_int (Kd.C_below h0' hB) (n : Int) hn0 hnI
      rw [Int.toNat_natCast] at hc5
      have hA := HA.out
      have hN := HN.out
      rw [coreNs_drop last core n hn1] at hA hN
      have hd := hN _ (List.mem_cons_self ..)
      have hN' := Aside0.mk fun v hv => hN v (List.mem_cons_of_mem _ hv)
      have hd0 := hd.1
      have hd1 := hd.2
      rw [puts_cons, ← List.append_assoc] at hA
      have hlen : acc.length + (putP (rd core n - last)).length ≤ 1000000 := by
        have e := congrArg List.length hA
        have := HT.out
        simp only [List.length_append] at e
        omega
      have hA' := Aside0.mk hA
      clear hA hN hd HA HN
      have hpc := put_row (rd core n - last) hd0 hd1 wr
      have hl5 : acc.length + (putP (rd core n - last)).length ≤ maxLen := by unfold maxLen; omega
      have hl6 : (acc.length + (putP (rd core n - last)).length) * 1 ≤ 140737488355328 := by omega
      go_wp2_with (first
        | (go_at_call 59; with_reducible refine hpc.mono ?_; rintro e6 w6 ⟨g6, c6, rfl, hn6, hB6⟩; have hBb6 := hB.trans (hB6.mono hB.size); have hown6 := Hlp.own_below hown hB6; have hsz6 := hBb6.size)
        | (at_builtin; refine wpList_append_any _ _ 22 rfl Wb.heap.size 5 i0 (.int .u8 0) 1 Try.underlying22 hi hz0 hz1 hz2 rfl _ acc.length (byts acc) rfl hown6 (some ⟨g6, 0, none⟩) (putP (rd core n - last)).length c6 (byts (putP (rd core n - last))) rfl (byts_len _) (by intro h; cases h) (by intro a e; cases e; exact hn6) (byts_one _) hl5 hl6 hsz6 rfl ?_; intro v7 w7 hown7 hgrow7 hat7; have hB7 : Below Wb.heap.size Wb w7 := hBb6.grown hgrow7 hsz6 (fun q e => (hown6.lt q e).1); have hown7' := byt_cat hown7))
      exact ⟨⟨n + 1, rd core n, acc ++ putP (rd core n - last), hn1, rfl, rfl, hA', hN', hown7', hB7⟩, by simp [intOf]; omega⟩
    · have hnI : ¬ (n : Int) < (core.length : Int) := by omega
      have hA := HA.out
      rw [List.drop_eq_nil_of_le (by omega), show putsP (coreNs last []) = [] from rfl, List.append_nil, puts_cons, ← List.append_assoc] at hA
      clear HA HN
      have hP0 := HNS.out (steps.length : Int) (List.mem_cons_of_mem _ (List.mem_append_right _ (List.mem_cons_self ..)))
      have hd1 := hP0.2
      have hpc := put_row (steps.length : Int) hP0.1 hP0.2 wr
      have z0r := cell_below z0 hB
      have z1r := cell_below z1 hB
      have hlen : acc.length + (putP (steps.length : Int)).length ≤ 1000000 := by
        have e := congrArg List.length hA
        have := HT.out
        simp only [List.length_append] at e
        omega
      have hA' := Aside0.mk hA
      have hl5 : acc.length + (putP (steps.length : Int)).length ≤ maxLen := by unfold maxLen; omega
      have hl6 : (acc.length + (putP (steps.length : Int)).length) * 1 ≤ 140737488355328 := by omega
      clear hP0 hA
      go_wp2_with (first
        | (go_at_call 59; with_reducible refine hpc.mono ?_; rintro e6 w6 ⟨g6, c6, rfl, hn6, hB6⟩; have hBb6 := hB.trans (hB6.mono hB.size); have hown6 := Hlp.own_below hown hB6; have hsz6 := hBb6.size)
        | (at_builtin; refine wpList_append_any _ _ 22 rfl Wb.heap.size 5 i0 (.int .u8 0) 1 Try.underlying22 hi hz0 hz1 hz2 rfl _ acc.length (byts acc) rfl hown6 (some ⟨g6, 0, none⟩) (putP (steps.length : Int)).length c6 (byts (putP (steps.length : Int))) rfl (byts_len _) (by intro h; cases h) (by intro a e; cases e; exact hn6) (byts_one _) hl5 hl6 hsz6 rfl ?_; intro v7 w7 hown7 hgrow7 hat7; have hB7 : Below Wb.heap.size Wb w7 := hBb6.grown hgrow7 hsz6 (fun q e => (hown6.lt q e).1); have hown7' := byt_cat hown7; have z17 := cell_below z1 hB7))
      clear hpc hlen hl5 hl6 z0r z1r hown h0'
      go_loopw [4, 50] (fun v4 v50 wr => ∃ (n : Nat) (acc : List Int), n ≤ steps.length ∧ v50 = .int .i64 n ∧ Aside0 (acc ++ putsP ((steps.drop n).flatMap stepNs) = bytesP core steps) ∧ Aside0 (∀ v ∈ (steps.drop n).flatMap stepNs, 0 ≤ v ∧ v < 4294967296) ∧ wr.ownsRow Wb.heap.size 5 1 v4 acc.length (byts acc) ∧ Below Wb.heap.size Wb wr)
        (fun _ v50 _ => steps.length - (intOf v50).toNat)
      case atStart => exact ⟨0, _, Nat.zero_le _, rfl, hA', ⟨fun v hv => HNS.out v (List.mem_cons_of_mem _ (List.mem_append_right _ (List.mem_cons_of_mem _ hv)))⟩, hown7', hB7⟩
      case round =>
        obtain ⟨j, acc2, hj, rfl, HA2, HN2, hown, hB⟩ := hrel
        obtain ⟨p8, c8, rfl⟩ := Hlp.own_slice hown
        by_cases hj1 : j < steps.length
        · have hjI : (j : Int) < (steps.length : Int) := by omega
          have hj0 : (0 : Int) ≤ (j : Int) := by omega
          obtain ⟨ad, A2, c2, rfl, h1, h2, h3, h4⟩ := at_T95 h1' (j : Int) hj0 hjI
          rw [Int.toNat_natCast] at h1 h2
          have hmem : rd_T95 steps (j : Int) ∈ steps := by rw [rd95_nat steps j hj1]; exact List.getElem_mem hj1
          have hlit := hlC _ hmem
          have hA3 := HA2.out
          rw [steps_drop steps j hj1] at hA3
          have hN2 := HN2.out
          rw [List.drop_eq_getElem_cons hj1, List.flatMap_cons, ← rd95_nat steps j hj1] at hN2
          have hN3 := Aside0.mk fun v hv => hN2 v (List.mem_append_right _ hv)
          generalize rd_T95 steps (j : Int) = S at h1 h2 h3 h4 hlit hA3 hN2
          obtain ⟨kd, C⟩ := S
          dsimp only at h1 h2 h3 h4 hlit hA3
          have hk := hN2 kd (List.mem_append_left _ (List.mem_cons_self ..))
          have hl := hN2 (C.length : Int) (List.mem_append_left _ (List.mem_cons_of_mem _ (List.mem_cons_self ..)))
          have hk0 := hk.1
          have hk1 := hk.2
          have hl1 := hl.2
          have hlC2 := hlit.1
          have HLT := Aside0.mk hlit.2
          have hlen : acc2.length + (putP kd).length + (putP (C.length : Int)).length ≤ 1000000 := by
            have e := congrArg List.length hA3
            have := HT.out
            simp only [List.length_append] at e
            omega
          have hA4 := Aside0.mk hA3
          have hpA := put_row kd hk.1 hk.2 (wr.alloc (.cells #[.int .i64 kd, .slice A2 C.length c2] 95))
          have hpB := fun W => put_row (C.length : Int) hl.1 hl.2 W
          have hl5 : acc2.length + (putP kd).length ≤ maxLen := by unfold maxLen; omega
          have hl6 : (acc2.length + (putP kd).length) * 1 ≤ 140737488355328 := by omega
          have hl7 : (acc2 ++ putP kd).length + (putP (C.length : Int)).length ≤ maxLen := by rw [List.length_append]; unfold maxLen; omega
          have hl8 : ((acc2 ++ putP kd).length + (putP (C.length : Int)).length) * 1 ≤ 140737488355328 := by rw [List.length_append]; omega
          have h1r := cell_below h1 hB
          have h2r := cell_below h2 hB
          have hBa := hB.alloc hB.size (.cells #[.int .i64 kd, .slice A2 C.length c2] 95)
          have hxa := blk_new wr (.cells #[.int .i64 kd, .slice A2 C.length c2] 95)
          have hownA := hown.alloc (.cells #[.int .i64 kd, .slice A2 C.length c2] 95)
          clear hA3 hN2 hk hl hlit HA2 HN2 hlen hj0
          go_wp2_with (first
            | (go_at_call 59; with_reducible refine hpA.mono ?_; rintro e6 w6 ⟨g6, c6, rfl, hn6, hB6⟩; have hBb6 := hBa.trans (hB6.mono hBa.size); have hown6 := Hlp.own_below hownA hB6; have hsz6 := hBb6.size; have hx6 := blk_below hxa hB6)
            | (at_builtin; refine wpList_append_any _ _ 22 rfl Wb.heap.size 5 i0 (.int .u8 0) 1 Try.underlying22 hi hz0 hz1 hz2 rfl _ acc2.length (byts acc2) rfl hown6 (some ⟨g6, 0, none⟩) (putP kd).length c6 (byts (putP kd)) rfl (byts_len _) (by intro h; cases h) (by intro a e; cases e; exact hn6) (byts_one _) hl5 hl6 hsz6 rfl ?_; intro v7 w7 hown7 hgrow7 hat7; have hB7 : Below Wb.heap.size Wb w7 := hBb6.grown hgrow7 hsz6 (fun q e => (hown6.lt q e).1); have hown7' := byt_cat hown7; have hx7 := blk_grown hx6 hgrow7 (Hlp.own_ne hown6 hx6 (by simp)); have x17 := cell_far hx7 1 (.slice A2 C.length c2) rfl)
            | (go_at_call 59; with_reducible refine (hpB _).mono ?_; rintro e8 w8 ⟨g8, c8', rfl, hn8, hB8⟩; have hBb8 := hB7.trans (hB8.mono hB7.size); have hown8 := Hlp.own_below hown7' hB8; have hsz8 := hBb8.size; have hx8 := blk_below hx7 hB8)
            | (at_builtin; refine wpList_append_any _ _ 22 rfl Wb.heap.size 5 i0 (.int .u8 0) 1 Try.underlying22 hi hz0 hz1 hz2 rfl _ (acc2 ++ putP kd).length (byts (acc2 ++ putP kd)) rfl hown8 (some ⟨g8, 0, none⟩) (putP (C.length : Int)).length c8' (byts (putP (C.length : Int))) rfl (byts_len _) (by intro h; cases h) (by intro a e; cases e; exact hn8) (byts_one _) hl7 hl8 hsz8 rfl ?_; intro v9 w9 hown9 hgrow9 hat9; have hB9 : Below Wb.heap.size Wb w9 := hBb8.grown hgrow9 hsz8 (fun q e => (hown8.lt q e).1); have hown9' := byt_cat hown9; have hx9 := blk_grown hx8 hgrow9 (Hlp.own_ne hown8 hx8 (by simp)); have x19 := cell_far hx9 1 (.slice A2 C.length c2) rfl))
          clear hpA hpB hl5 hl6 hl7 hl8 h1r h2r hxa hownA hx9 x19 hx8 hx7 x17 hx6 hown6 hown8 hown7' hown7 hown9 hgrow7 hgrow9 hk0 hk1 hl1 hBa hB7 hBb6 hBb8 hn6 hn8 hat7 hat9 h1 h2 hown
          have hNL : ∀ v ∈ (C.drop 0).map numbL, 0 ≤ v ∧ v < 4294967296 := by
            intro v hv
            rw [List.drop_zero] at hv
            obtain ⟨x, hx, rfl⟩ := List.mem_map.mp hv
            have := HLT.out x hx
            exact numbL_in x this.1 this.2
          go_loopw [4, 70] (fun v4 v70 wr => ∃ (i : Nat) (acc3 : List Int), i ≤ C.length ∧ v70 = .int .i64 i ∧ Aside0 (acc3 ++ putsP ((C.drop i).map numbL) ++ putsP ((steps.drop (j + 1)).flatMap stepNs) = bytesP core steps) ∧ wr.ownsRow Wb.heap.size 5 1 v4 acc3.length (byts acc3) ∧ Below Wb.heap.size Wb wr)
            (fun _ v70 _ => C.length - (intOf v70).toNat)
          case atStart => exact ⟨0, _, Nat.zero_le _, rfl, hA4, hown9', hB9⟩
          case round =>
            obtain ⟨i, acc3, hi1, rfl, HA5, hown, hB⟩ := hrel
            obtain ⟨p10, c10, rfl⟩ := Hlp.own_slice hown
            by_cases hi2 : i < C.length
            · have hiI : (i : Int) < (C.length : Int) := by omega
              have hi0 : (0 : Int) ≤ (i : Int) := by omega
              obtain ⟨ad2, rfl, hc10⟩ := Kd.at_int (Kd.C_below h4 hB) (i : Int) hi0 hiI
              rw [Int.toNat_natCast] at hc10
              have hx2 := HLT.out (rd C (i : Int)) (by rw [rd_nat C i hi2]; exact List.getElem_mem hi2)
              have hA6 := HA5.out
              rw [lits_drop C i hi2, ← List.append_assoc] at hA6
              have hlen : acc3.length + (putP (numbL (rd C (i : Int)))).length ≤ 1000000 := by
                have e := congrArg List.length hA6
                have := HT.out
                simp only [List.length_append] at e
                omega
              have hA7 := Aside0.mk hA6
              have hxa := hx2.1
              have hxb := hx2.2
              have hni := numbL_in (rd C (i : Int)) hxa hxb
              have hpn := number_calls (rd C (i : Int)) hxa hxb wr
              have hpB := fun W => put_row (numbL (rd C (i : Int))) hni.1 hni.2 W
              have hl5 : acc3.length + (putP (numbL (rd C (i : Int)))).length ≤ maxLen := by unfold maxLen; omega
              have hl6 : (acc3.length + (putP (numbL (rd C (i : Int)))).length) * 1 ≤ 140737488355328 := by omega
              clear hA6 HA5 hx2 hni hlen
              go_wp2_with (first
                | (go_at_call 60; with_reducible refine hpn.mono ?_; rintro e5 w5 ⟨rfl, hB5⟩; have hBb5 := hB.trans (hB5.mono hB.size); have hown5 := Hlp.own_below hown hB5)
                | (go_at_call 59; with_reducible refine (hpB _).mono ?_; rintro e6 w6 ⟨g6, c6, rfl, hn6, hB6⟩; have hBb6 := hBb5.trans (hB6.mono hBb5.size); have hown6 := Hlp.own_below hown5 hB6; have hsz6 := hBb6.size)
                | (at_builtin; refine wpList_append_any _ _ 22 rfl Wb.heap.size 5 i0 (.int .u8 0) 1 Try.underlying22 hi hz0 hz1 hz2 rfl _ acc3.length (byts acc3) rfl hown6 (some ⟨g6, 0, none⟩) (putP (numbL (rd C (i : Int)))).length c6 (byts (putP (numbL (rd C (i : Int))))) rfl (byts_len _) (by intro h; cases h) (by intro a e; cases e; exact hn6) (byts_one _) hl5 hl6 hsz6 rfl ?_; intro v7 w7 hown7 hgrow7 hat7; have hB7 : Below Wb.heap.size Wb w7 := hBb6.grown hgrow7 hsz6 (fun q e => (hown6.lt q e).1); have hown7' := byt_cat hown7))
              exact ⟨⟨i + 1, acc3 ++ putP (numbL (rd C (i : Int))), hi2, rfl, hA7, hown7', hB7⟩, by simp [intOf]; omega⟩
            · have hiI : ¬ (i : Int) < (C.length : Int) := by omega
              have hA6 := HA5.out
              rw [List.drop_eq_nil_of_le (by omega), show putsP (List.map numbL []) = [] from rfl, List.append_nil] at hA6
              have hA7 := Aside0.mk hA6
              clear hA6 HA5
              go_wp2_with fail
              exact ⟨⟨j + 1, acc3, hj1, rfl, hA7, hN3, hown, hB⟩, by simp [intOf]; omega⟩
        · have hjI : ¬ (j : Int) < (steps.length : Int) := by omega
          have hA6 := HA2.out
          rw [List.drop_eq_nil_of_le (by omega), show putsP (List.flatMap stepNs []) = [] from rfl, List.append_nil] at hA6
          have hA7 := Aside0.mk hA6
          clear hA6 HA2 HN2
          go_wp2_with fail
          go_ret2
          rw [← hA7.out]
          exact ⟨_, rfl, Hlp.own_base hown hBx.size, hBx.trans (hB.mono hBx.size)⟩
end Go.Proofs.Ytcebjhbphcoboaa.Crt
