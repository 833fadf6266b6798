/- Certificates: cut off, or with more behind. A walk by hand. -/
import Derived.Test.YtcebjhbphcoboaaCm
import Derived.Test.YtcebjhbphcoboaaCn25
import Derived.KernelRfl
namespace Go.Proofs.Ytcebjhbphcoboaa.Crt
open Go Go.RowKit Go.Proofs.Ytcebjhbphcoboaa.C Go.Proofs.Ytcebjhbphcoboaa.Hlp Go.Proofs.YtcebjhbphcoboaaW.PrintWords Go.Proofs.YtcebjhbphcoboaaW.PrintLast Go.Proofs.YtcebjhbphcoboaaW.PrintMore Go.Proofs.Ytcebjhbphcoboaa.Aid Go.Proofs.Ytcebjhbphcoboaa.Clause12 Go.Proofs.Ytcebjhbphcoboaa.Clean12
attribute [local go_sem] max2_int min2_int max_two min_two
set_option linter.unusedVariables false
set_option linter.unusedSimpArgs false
theorem awake_ev : Ev (fun k => ferrulelaw23_awake.f k) true := Ev.of ferrulelaw23_awake.mono (k := 40) (by kernel_rfl)
/-- Bytes, cut off. -/
theorem cut_u8 {A : Option Addr} {c : Nat} {b : List Int} (j : Nat) (hj : j ≤ b.length) (hc : b.length ≤ c) : (∀ W : World, (Instr.slice 22 (.slice A b.length c) none (some (.int .i64 (j : Int))) none).run Try.prog W = .ok (.slice A j c) W) ∧ ∀ w : World, Kd.C (Kd.int .u8) w A b.length b → Kd.C (Kd.int .u8) w A j (b.take j) := by
  obtain ⟨i0, hi, _, hz1, _⟩ := info_parts infoB'
  obtain ⟨h1, h2, _⟩ := print_take_of (P := Try.prog) (Value.int .u8) 0 22 5 .i64 Try.underlying22 hi hz1 A c b (j : Int) (by omega) (by omega) hc
  have hl : (b.take j).length = j := by rw [List.length_take]; omega
  rw [Int.toNat_natCast, hl] at h1 h2
  exact ⟨h1, fun w h => Kd.C_of_reads (h1 := fun _ => rfl) (h2 w (Kd.reads_of_C h))⟩
theorem byt_reads {w : World} {base : Nat} {p : Option Addr} {c : Nat} {l : List Int} (h : w.ownsRow base 5 1 (.slice p l.length c) l.length (byts l)) : l.length ≤ c ∧ Kd.C (Kd.int .u8) w p l.length l := by
  obtain ⟨A, c', e, hc, hC⟩ := C_of_byts h
  cases e
  exact ⟨hc, hC⟩
theorem own_none_ne (v : Value) : v.ownBlock = none ∨ v.ownBlock ≠ none := by cases v.ownBlock <;> simp
theorem own_empty {w : World} {base : Nat} {ok : Nat → Prop} {v : Value} (h : Kd.R (Kd.int .u8) 5 w base ok v []) : w.ownsRow base 5 1 v 0 [] := own_of_Rb h
theorem own_single {w : World} {base : Nat} {ok : Nat → Prop} {v : Value} {x : Int} (h : Kd.R (Kd.int .u8) 5 w base ok v [x]) : w.ownsRow base 5 1 v 1 (byts [x]) := own_of_Rb h
theorem byts_len1 (x : Int) : (byts [x]).length = 1 := rfl
theorem byt_more {w : World} {base : Nat} {v : Value} {b : List Int} {x : Int} (h : w.ownsRow base 5 1 v (b.length + 1) (byts b ++ byts [x])) : ∃ A c, v = .slice A (b.length + 1) c ∧ b.length + 1 ≤ c ∧ Kd.C (Kd.int .u8) w A (b.length + 1) (b ++ [x]) := by
  have h2 : w.ownsRow base 5 1 v (b ++ [x]).length (byts (b ++ [x])) := byt_app h
  obtain ⟨A, c, e, hc, hC⟩ := C_of_byts h2
  rw [List.length_append, List.length_singleton] at e hc hC
  exact ⟨A, c, e, hc, hC⟩
set_option maxHeartbeats 4000000 in
set_option maxRecDepth 100000 in
theorem longer_calls (w : World) {A0 A1 : Option Addr} {c0 c1 : Nat} {core : List Int} {steps : List S95} (h0 : Kd.C (Kd.int .i64) w A0 core.length core) (hc0 : core.length ≤ c0) (h1 : Kd.C k95 w A1 steps.length steps) (hc1 : steps.length ≤ c1) (n more : Int) (hn0 : 0 ≤ n) (hn1 : n < 65536) :
    Calls Try.prog 8 #[.agg #[.slice A0 core.length c0, .slice A1 steps.length c1], .int .u16 n, .int .u8 more] w fun e w' => e = .returned (.bool true) ∧ Below w.heap.size w w' := by
  obtain ⟨i0, hi, hz0, hz1, hz2⟩ := info_parts infoB'
  have hBx : Below w.heap.size w (w.alloc (.cells #[.slice A0 core.length c0, .slice A1 steps.length c1] 52)) := (Below.refl _ _).alloc (Nat.le_refl _) _
  have hx := blk_new w (.cells #[.slice A0 core.length c0, .slice A1 steps.length c1] 52)
  generalize hWb : w.alloc (.cells #[.slice A0 core.length c0, .slice A1 steps.length c1] 52) = Wb at hBx hx
  have HWb := Aside0.mk hWb
  clear hWb
  obtain ⟨ka, hka⟩ := awake_ev.rounds
  have haw := ferrulelaw23_awake.calls ka true Wb hka
  have hfe := few_ev core steps
  by_cases hf : fewP core steps = true
  · rw [hf] at hfe
    obtain ⟨kf, hkf⟩ := hfe.rounds
    have hfc := fun W (hB : Below w.heap.size w W) => ferrulelaw23_few.calls kf A0 c0 core A1 c1 steps true W (Kd.C_below h0 hB) hc0 (Kd.C_below h1 hB) hc1 hkf
    have hf' := hf
    unfold fewP at hf'
    simp only [Bool.and_eq_true, decide_eq_true_eq, List.all_eq_true] at hf'
    obtain ⟨⟨hc, hs⟩, hC⟩ := hf'
    have hge := refGood_ev core steps hc hs hC
    by_cases hg : goodG core steps = true
    · rw [hg] at hge
      obtain ⟨kg, hkg⟩ := hge.rounds
      have hgc := fun W (hB : Below w.heap.size w W) => ferruleref23_Good.calls kg A0 c0 core A1 c1 steps true W (Kd.C_below h0 hB) hc0 (Kd.C_below h1 hB) hc1 hkg
      have hbc := fun W (hB : Below w.heap.size w W) => bytesC_calls W (Kd.C_below h0 hB) hc0 (Kd.C_below h1 hB) hc1 hf hg
      have hl2 := bytes_two core steps []
      rw [List.append_nil] at hl2
      have hlB := bytes_len core steps hc hs hC
      have hcut := read_cut core steps hg hc hs hC
      have hmore := read_more core steps hg hc hs hC more
      have hFC : (bytesP core steps).take 2 = [70, 67] := by unfold bytesP; simp
      generalize bytesP core steps = b at *
      clear hf hg hC hkf hkg hfe hge hka
      obtain ⟨j, hj, hjl⟩ : ∃ j : Nat, Int.tmod n (b.length : Int) = (j : Int) ∧ j < b.length := by
        refine ⟨(n % (b.length : Int)).toNat, ?_, ?_⟩
        · rw [Int.tmod_eq_emod_of_nonneg hn0]
          have := Int.emod_nonneg n (show (b.length : Int) ≠ 0 by omega)
          omega
        · have := Int.emod_lt_of_pos n (show (0 : Int) < (b.length : Int) by omega)
          have := Int.emod_nonneg n (show (b.length : Int) ≠ 0 by omega)
          omega
      have hne := hcut j hjl
      have hnw : IntKind.i64.wrap n = n := (i64_w n).trans (wrap64_in (by omega) (by omega))
      have hz : ((b.length : Int) == 0) = false := beq_eq_false_iff_ne.mpr (by omega)
      have hzz : ¬ (b.length : Int) = 0 := by omega
      have hFj : (b.take j).length < 2 ∨ (b.take j).take 2 = [70, 67] := by
        rcases Nat.lt_or_ge j 2 with h | h
        · left; rw [List.length_take]; omega
        · right; rw [List.take_take, Nat.min_eq_left h]; exact hFC
      have hFm : (b ++ [more]).length < 2 ∨ (b ++ [more]).take 2 = [70, 67] := by
        right; rw [List.take_append_of_le_length hl2]; exact hFC
      have hlm : (b ++ [more]).length ≤ 1000000000 := by simp; omega
      have hlj : (b.take j).length ≤ 1000000000 := by rw [List.length_take]; omega
      have hez : ((readP (b.take j)).2.2.2 != 0) = true := bne_iff_ne.mpr hne
      have hr1 : ∃ R1, readP (b.take j) = R1 := ⟨_, rfl⟩
      obtain ⟨R1, hr1⟩ := hr1
      rw [hr1] at hne hez
      have hmj : min j b.length = j := by omega
      have hljj : (b.take j).length = j := by rw [List.length_take]; omega
      have hl1 : 0 < b.length := by omega
      have hl5 : 0 + b.length ≤ maxLen := by unfold maxLen; omega
      have hl6 : (0 + b.length) * 1 ≤ 140737488355328 := by omega
      have hl7 : b.length + 1 ≤ maxLen := by unfold maxLen; omega
      have hl8 : (b.length + 1) * 1 ≤ 140737488355328 := by omega
      have hrc := fun W A c h1 h2 => read_calls (w := W) (A := A) (c := c) (b := b.take j) h1 h2 hlj hFj
      have hrm := fun W A c h1 h2 => read_calls (w := W) (A := A) (c := c) (b := b ++ [more]) h1 h2 hlm hFm
      rw [hr1, hljj] at hrc
      rw [hmore] at hrm
      have hlmm : (b ++ [more]).length = b.length + 1 := by simp
      rw [hlmm] at hrm
      clear hcut hFj hFm hFC hlj hlm hlmm
      go_enter Try.func8, Try.ntmps8
      go_wp2_with fail
      rw [HWb.out]
      have z0 := cell_far hx 0 (.slice A0 core.length c0) rfl
      have z1 := cell_far hx 1 (.slice A1 steps.length c1) rfl
      go_wp2_with (first
        | (go_at_call 25; with_reducible refine haw.mono ?_; rintro e w1 ⟨rfl, hB1⟩; have hBw1 := hBx.trans (hB1.mono hBx.size); have z01 := cell_below z0 hB1; have z11 := cell_below z1 hB1)
        | (go_at_call 26; with_reducible refine (hfc _ hBw1).mono ?_; rintro e w2 ⟨rfl, hB2⟩; have hBw2 := hBw1.trans (hB2.mono hBw1.size); have z02 := cell_below z01 hB2; have z12 := cell_below z11 hB2)
        | (go_at_call 29; with_reducible refine (hgc _ hBw2).mono ?_; rintro e w3 ⟨rfl, hB3⟩; have hBw3 := hBw2.trans (hB3.mono hBw2.size); have z03 := cell_below z02 hB3; have z13 := cell_below z12 hB3)
        | (go_at_call 27; with_reducible refine (hbc _ hBw3).mono ?_; rintro e w4 ⟨u, rfl, hu, hB4⟩; have hBw4 := hBw3.trans (hB4.mono hBw3.size); have hown4 := own_of_Rb hu; obtain ⟨p4, c4, rfl⟩ := Hlp.own_slice hown4; obtain ⟨g4, rfl⟩ := Hlp.addr_of hown4 hl1; have hC4 := byt_reads hown4; obtain ⟨hcut4, hA4⟩ := cut_u8 (A := some ⟨g4, 0, none⟩) (c := c4) (b := b) j (Nat.le_of_lt hjl) hC4.1; have hjc : j ≤ c4 := Nat.le_trans (Nat.le_of_lt hjl) hC4.1; have hCj := hA4 _ hC4.2)
        | (go_at_call 30; with_reducible refine (hrc _ _ _ hCj hjc).mono ?_; rintro e w5 ⟨v51, v52, rfl, ho51, ho52, hB5⟩; obtain ⟨p51, c51, rfl⟩ := Hlp.own_slice ho51; obtain ⟨⟨p52, c52, e52⟩, _⟩ := R_own95 ho52; subst e52)
        | ((with_reducible refine gate_dst (N := 50) rfl ?_); refine Kd.R_lit (Kd.int .u8) w4.heap.size 5 ?hg (N := 50) ?hd (w0 := w4) (xs := ([] : List Int)) (inner := []) (ok := fun _ => True) (okp := fun _ => True) ?hr (Reps.none _ _) (fun _ hk => hk) trivial ?hB ?hle (by simp) ?_; (case hd => rfl); (case hg => rfl); (case hr => first | (go_simp; done) | (go_simp; rfl)); (case hB => (repeat (first | exact hB5 | apply below_alloc | (refine below_set ?_ hB5.size) | (refine below_set ?_ (Nat.le_trans hB5.size (by simp)))))); (case hle => (simp; have := hB5.size; omega)); intro v6 w6 ho6 hB6 hg6 _; have hown6 := own_empty ho6; have hn6 := (Hlp.own_below hown4 hB6).cells (g := g4) rfl; have hsz6 := hB6.size)
        | (at_builtin; refine wpList_append_any _ _ 22 rfl w4.heap.size 5 i0 (.int .u8 0) 1 Try.underlying22 hi hz0 hz1 hz2 rfl v6 0 [] rfl hown6 (some ⟨g4, 0, none⟩) b.length c4 (byts b) rfl (byts_len _) (by intro h; cases h) (by intro a e; cases e; exact hn6) (byts_one _) hl5 hl6 hsz6 rfl ?_; intro v7 w7 hown7 hgrow7 hat7; have hB7 : Below w4.heap.size w4 w7 := hB6.grown hgrow7 hsz6 (fun q e => (hown6.lt q e).1); rw [Nat.zero_add, List.nil_append] at hown7)
        | ((with_reducible refine gate_dst (N := 54) rfl ?_); refine Kd.R_lit (Kd.int .u8) w4.heap.size 5 ?hg (N := 54) ?hd (w0 := w4) (xs := ([more] : List Int)) (inner := [.int .u8 more]) (ok := fun _ => True) (okp := fun _ => True) ?hr ?hp (fun _ hk => hk) trivial hB7 hB7.size (by simp) ?_; (case hd => rfl); (case hg => rfl); (case hr => first | (go_simp; done) | (go_simp; rfl)); (case hp => exact (Reps.one (show Kd.M (Kd.int .u8) _ _ _ more [.int .u8 more] from rfl) (Reps.none _ _))); intro v8 w8 ho8 hB8 hg8 hnew8; have hown78 := hown7.kept hg8 (own_none_ne v7); have hown8 := own_single ho8; obtain ⟨p8, c8, rfl⟩ := Hlp.own_slice hown8; obtain ⟨g8, rfl⟩ := Hlp.addr_of hown8 Nat.zero_lt_one; have hn8 := hown8.cells (g := g8) rfl; have hsz8 := hB8.size)
        | (at_builtin; refine wpList_append_any _ _ 22 rfl w4.heap.size 5 i0 (.int .u8 0) 1 Try.underlying22 hi hz0 hz1 hz2 rfl v7 b.length (byts b) rfl hown78 (some ⟨g8, 0, none⟩) 1 c8 (byts [more]) rfl (byts_len1 more) (by intro h; cases h) (by intro a e; cases e; exact hn8) (byts_one _) hl7 hl8 hsz8 rfl ?_; intro v9 w9 hown9 hgrow9 hat9; have hB9 : Below w4.heap.size w4 w9 := hB8.grown hgrow9 hsz8 (fun q e => (hown78.lt q e).1); obtain ⟨A9, c9, e9, hc9, hC9⟩ := byt_more hown9; subst e9)
        | (go_at_call 30; with_reducible refine (hrm _ _ _ hC9 hc9).mono ?_; rintro e w10 ⟨v101, v102, rfl, ho101, ho102, hB10⟩; obtain ⟨p101, c101, rfl⟩ := Hlp.own_slice ho101; obtain ⟨⟨p102, c102, e102⟩, _⟩ := R_own95 ho102; subst e102))
      go_ret
      have hBf := hBw4.trans (hB9.mono hBw4.size)
      have hB10' := hBf.trans (hB10.mono hBf.size)
      exact ⟨rfl, hB10'.alloc hB10'.size _⟩
    · rw [Bool.eq_false_iff.mpr hg] at hge
      obtain ⟨kg, hkg⟩ := hge.rounds
      have hgc := fun W (hB : Below w.heap.size w W) => ferruleref23_Good.calls kg A0 c0 core A1 c1 steps false W (Kd.C_below h0 hB) hc0 (Kd.C_below h1 hB) hc1 hkg
      go_enter Try.func8, Try.ntmps8
      go_wp2_with fail
      rw [HWb.out]
      have z0 := cell_far hx 0 (.slice A0 core.length c0) rfl
      have z1 := cell_far hx 1 (.slice A1 steps.length c1) rfl
      go_wp2_with (first
        | (go_at_call 25; with_reducible refine haw.mono ?_; rintro e w1 ⟨rfl, hB1⟩; have hBw1 := hBx.trans (hB1.mono hBx.size); have z01 := cell_below z0 hB1; have z11 := cell_below z1 hB1)
        | (go_at_call 26; with_reducible refine (hfc _ hBw1).mono ?_; rintro e w2 ⟨rfl, hB2⟩; have hBw2 := hBw1.trans (hB2.mono hBw1.size); have z02 := cell_below z01 hB2; have z12 := cell_below z11 hB2)
        | (go_at_call 29; with_reducible refine (hgc _ hBw2).mono ?_; rintro e w3 ⟨rfl, hB3⟩; have hBw3 := hBw2.trans (hB3.mono hBw2.size)))
      go_ret
      exact ⟨rfl, hBw3⟩
  · rw [Bool.eq_false_iff.mpr hf] at hfe
    obtain ⟨kf, hkf⟩ := hfe.rounds
    have hfc := fun W (hB : Below w.heap.size w W) => ferrulelaw23_few.calls kf A0 c0 core A1 c1 steps false W (Kd.C_below h0 hB) hc0 (Kd.C_below h1 hB) hc1 hkf
    go_enter Try.func8, Try.ntmps8
    go_wp2_with fail
    rw [HWb.out]
    have z0 := cell_far hx 0 (.slice A0 core.length c0) rfl
    have z1 := cell_far hx 1 (.slice A1 steps.length c1) rfl
    go_wp2_with (first
      | (go_at_call 25; with_reducible refine haw.mono ?_; rintro e w1 ⟨rfl, hB1⟩; have hBw1 := hBx.trans (hB1.mono hBx.size); have z01 := cell_below z0 hB1; have z11 := cell_below z1 hB1)
      | (go_at_call 26; with_reducible refine (hfc _ hBw1).mono ?_; rintro e w2 ⟨rfl, hB2⟩; have hBw2 := hBw1.trans (hB2.mono hBw1.size); have z02 := cell_below z01 hB2; have z12 := cell_below z11 hB2))
    go_ret
    exact ⟨rfl, hBw2⟩
end Go.Proofs.Ytcebjhbphcoboaa.Crt
