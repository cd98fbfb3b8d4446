/- The program's reader of texts, walked. -/
import Derived.Test.YtkhbmamcbhjafaaKeysG
import Derived.Test.YtkhbmamcbhjafaaSlAll
import Derived.WalkLawsBesides
import Derived.StillTailTactics
import Derived.IntWalk
import Derived.KernelRfl
namespace Go.Proofs.Ytkhbmamcbhjafaa.Keys
open Go.RowKit Go.Proofs.YtkhbmamcbhjafaaW.PrintWords Go.Proofs.YtkhbmamcbhjafaaW.PrintLast Go.Proofs.YtkhbmamcbhjafaaW.PrintMore Go.Proofs.Ytkhbmamcbhjafaa.Str Go.Proofs.Ytkhbmamcbhjafaa.PRef Go.Proofs.Ytkhbmamcbhjafaa.Stands Go.Proofs.Ytkhbmamcbhjafaa.Sl
set_option linter.unusedVariables false
set_option linter.unusedSimpArgs false
/-- What the program's reader of texts answers. -/
def textA (s : ByteArray) : Option (List UInt8 × List UInt8) → Int × Int × ByteArray × Bool × ByteArray
  | some (t, r) => (2, 0, ⟨t.toArray⟩, true, ⟨r.toArray⟩)
  | none => (0, 0, ⟨#[]⟩, false, s)
def readV (r : Int × Int × ByteArray × Bool × ByteArray) : Value := .tuple #[.agg #[.int .i64 r.1, .int .i64 r.2.1, .string r.2.2.1], .bool r.2.2.2.1]
abbrev kU : Kd Int := Kd.int .u8
theorem infoU : (Try.prog.info? 5).map (fun i => (i.zero, i.size, i.bytes)) = some (some (.int .u8 0), 1, 1) := by kernel_rfl
theorem zero_cells : (Value.agg #[.int .i64 0, .int .i64 0, .string ⟨#[]⟩]).cells = #[.int .i64 0, .int .i64 0, .string ⟨#[]⟩] := rfl
set_option maxHeartbeats 2000000 in
set_option maxRecDepth 10000 in
theorem text_fun (g : Nat) (s : ByteArray) (hs : s.size ≤ 140737488351232) :
    FunV Try.prog 45 #[.pointer (some ⟨g, 0, none⟩)] (fun _ => True) [HP.obj g 97 [.string s]] (readV (textA s (unesc [] s.toList))) [HP.obj g 97 [.string (textA s (unesc [] s.toList)).2.2.2.2]] := by
  intro w S hS hR
  have H0 := (St.start hS).alloc (.cells #[.int .i64 0, .int .i64 0, .string ⟨#[]⟩] 36)
  have H : St w S _ [HP.obj w.heap.size 36 [.int .i64 0, .int .i64 0, .string ⟨#[]⟩], HP.obj g 97 [.string s]] := H0
  clear hS hR H0
  have huV := Try.underlying36
  have huR := Try.underlying97
  have huB := Try.underlying76
  go_enter Try.func45, Try.ntmps45
  go_wp2
  generalize w.alloc (.cells #[.int .i64 0, .int .i64 0, .string ⟨#[]⟩] 36) = w1 at H ⊢
  generalize w.heap.size = ra at H ⊢
  go_loopw [4, 5] (fun v4 v5 w' => ∃ (acc : List UInt8) (i : Nat), v5 = .int .i64 i ∧ i ≤ s.size ∧ acc.length ≤ i ∧ Aside0 (unesc [] s.toList = unesc acc (s.toList.drop i)) ∧ St w S w' [HP.row kU 5 v4 (ints acc), HP.obj ra 36 [.int .i64 0, .int .i64 0, .string ⟨#[]⟩], HP.obj g 97 [.string s]]) (fun _ v5 _ => s.size - (intOf v5).toNat)
  case atStart => exact ⟨[], 0, rfl, by omega, by simp, ⟨rfl⟩, H.nil_ _ _⟩
  case round =>
    obtain ⟨acc, i, rfl, his, hai, HU, Hr⟩ := hrel
    clear H
    have hcell : wr.cell? ⟨g, 0, none⟩ = some (.string s) := (Hr.mv 2).cell 0
    have hfz : wr.frozen? ⟨g, 0, none⟩ = false := (Hr.mv 2).unfrozen 0
    have hr0 : wr.cell? ⟨ra, 0, none⟩ = some (.int .i64 0) := (Hr.mv 1).cell 0
    have hr1 : wr.cell? ⟨ra, 1, none⟩ = some (.int .i64 0) := (Hr.mv 1).cell 1
    have hr2 : wr.cell? ⟨ra, 2, none⟩ = some (.string ⟨#[]⟩) := (Hr.mv 1).cell 2
    have hf0 := (Hr.mv 1).unfrozen 0
    have hf1 := (Hr.mv 1).unfrozen 1
    have hf2 := (Hr.mv 1).unfrozen 2
    have hgr : g ≠ ra := by
      obtain ⟨_, S', ⟨S1, S2, a, ⟨S3, S4, b, _, _, s3, _⟩, d, _, _⟩, _⟩ := Hr.out 0
      rintro rfl
      exact d _ a.2 (s3 _ b.2)
    have hrg : ra ≠ g := fun e => hgr e.symm
    -- every way that fails
    have hbad : unesc acc (s.toList.drop i) = none → textA s (unesc [] s.toList) = (0, 0, ⟨#[]⟩, false, s) := fun h => by rw [HU.out, h]; rfl
    have Hs := (((Hr.out 0).set 0 (.int .i64 0)).set 1 (.int .i64 0)).set 2 (.string ⟨#[]⟩)
    have p0 := Hs.cell 0
    have p1 := Hs.cell 1
    have p2 := Hs.cell 2
    have hi64 : (i : Int) + 2 ≤ 9223372036854775807 := by omega
    have hw1 : IntKind.i64.wrap ((i : Int) + 1) = (i : Int) + 1 := IntWalk.i64_in _ (by omega)
    have hw2 : IntKind.i64.wrap ((i : Int) + 1 + 1) = (i : Int) + 1 + 1 := IntWalk.i64_in _ (by omega)
    have h0i : (0 : Int) ≤ (i : Int) := by omega
    by_cases h0 : i < s.size
    · have hlt : (i : Int) < (s.size : Int) := by omega
      obtain ⟨b, hb⟩ : ∃ b : UInt8, s[i] = b := ⟨_, rfl⟩
      have hx0 : ∀ h : i < s.size, ((s[i]'h).toNat : Int) = (b.toNat : Int) := fun h => by rw [← hb]
      have hub := b.toNat_lt
      by_cases hz : b = 0
      · subst hz
        have hx0' : ∀ h : i < s.size, ((s[i]'h).toNat : Int) = 0 := hx0
        clear hx0
        by_cases h1 : i + 1 < s.size
        · have hlt1 : (i : Int) + 1 < (s.size : Int) := by omega
          have ht1 : ((i : Int) + 1).toNat = i + 1 := by omega
          have h1i : (0 : Int) ≤ (i : Int) + 1 := by omega
          obtain ⟨c, hc⟩ : ∃ c : UInt8, s[i + 1] = c := ⟨_, rfl⟩
          have hx1 : ∀ h : i + 1 < s.size, ((s[i + 1]'h).toNat : Int) = (c.toNat : Int) := fun h => by rw [← hc]
          have hd : s.toList.drop i = 0 :: c :: s.toList.drop (i + 2) := by rw [drop_drop_at s i h1, hb, hc]
          by_cases h255 : c = 255
          · subst h255
            have hstep := Aside0.mk (show unesc [] s.toList = unesc (acc ++ [0]) (s.toList.drop (i + 2)) by rw [HU.out, hd]; simp [unesc])
            have hx1' : ∀ h : i + 1 < s.size, ((s[i + 1]'h).toNat : Int) = 255 := hx1
            have hle : (ints acc).length + 1 ≤ 140737488355328 := by rw [ints_length]; omega
            have HA : St w S wr [HP.row kU 5 u4 (ints acc), HP.cells kU 0 [.int .u8 0], HP.obj ra 36 [.int .i64 0, .int .i64 0, .string ⟨#[]⟩], HP.obj g 97 [.string s]] := (Hr.cells_ (d := kU) (x := 0) (cs := [.int .u8 0]) rfl).mv 1
            clear hd hb hc hx1 hbad Hs p0 p1 p2
            go_wp2_with (first
              | ((with_reducible refine gate_dst (N := 53) rfl ?_); at_builtin; refine ev_append kU rfl (.tmp 51) (.tmp 52) 76 5 _ 1 rfl Try.underlying76 infoU rfl (by decide) (by omega) u4 (ints acc) 0 [.int .u8 0] rfl rfl HA (by omega) ?_; intro v3 w5 H5))
            go_roundw
            case rel => exact ⟨acc ++ [0], i + 2, by go_num, by omega, by simp only [List.length_append, List.length_singleton]; omega, hstep, by rw [ints_app]; exact H5⟩
            case measure => simp [intOf]; omega
          · by_cases hone : c = 1
            · subst hone
              have hx1' : ∀ h : i + 1 < s.size, ((s[i + 1]'h).toNat : Int) = 1 := hx1
              have hR : textA s (unesc [] s.toList) = (2, 0, ⟨acc.toArray⟩, true, ⟨(s.toList.drop (i + 2)).toArray⟩) := by rw [HU.out, hd]; simp [unesc, textA]
              have hext : s.extract (i + 2) s.size = ⟨(s.toList.drop (i + 2)).toArray⟩ := mk_ext _ _ (extract_toList s (i + 2) (by omega))
              have hsl1 : (i : Int) + 1 + 1 ≤ (s.size : Int) := by omega
              have hsl2 : ((i : Int) + 1 + 1).toNat = i + 2 := by omega
              have hsl3 : (0 : Int) ≤ (i : Int) + 1 + 1 := by omega
              have Hg := (Hr.mv 2).set 0 (.string ⟨(s.toList.drop (i + 2)).toArray⟩)
              obtain ⟨A4, c4, rfl, hc4, hC4⟩ := St.row_C (Hg.mv 1)
              have hcv := Kd.C_string (P := Try.prog) (src := 76) (dst := 9) (c := c4) Try.underlying76 Try.underlying5 Try.underlying9 hC4
              rw [str_ints] at hcv
              have Hq := ((((Hg.out 1).mv 1).set 0 (.int .i64 2)).set 1 (.int .i64 0)).set 2 (.string ⟨acc.toArray⟩)
              have q0 : (wr.setCell ⟨g, 0, none⟩ (.string ⟨(s.toList.drop (i + 2)).toArray⟩)).cell? ⟨ra, 0, none⟩ = some (.int .i64 0) := (Hg.mv 2).cell 0
              have q1 : (wr.setCell ⟨g, 0, none⟩ (.string ⟨(s.toList.drop (i + 2)).toArray⟩)).cell? ⟨ra, 1, none⟩ = some (.int .i64 0) := (Hg.mv 2).cell 1
              have q2 : (wr.setCell ⟨g, 0, none⟩ (.string ⟨(s.toList.drop (i + 2)).toArray⟩)).cell? ⟨ra, 2, none⟩ = some (.string ⟨#[]⟩) := (Hg.mv 2).cell 2
              have g0 := (Hg.mv 2).unfrozen 0
              have g1 := (Hg.mv 2).unfrozen 1
              have g2 := (Hg.mv 2).unfrozen 2
              clear hb hc hx1 hbad Hs hr0 hr1 hr2 hf0 hf1 hf2 hC4 hd
              go_wp2
              exact bodyPost_ret (results_ct rfl _ _ ra 36 #[.int .i64 2, .int .i64 0, .string ⟨acc.toArray⟩] (0, 0) _ rfl Hq.blk Try.underlying36 rfl (by kernel_rfl)) rfl ⟨by first | rfl | (rw [hR]; rfl), by first | exact Hq.out 0 | (rw [hR]; exact Hq.out 0)⟩
            · have hR := hbad (by rw [hd]; simp [unesc, h255, hone])
              have hb255 : ((c.toNat : Int) == 255) = false := by
                rw [beq_eq_false_iff_ne]
                exact fun e => h255 (UInt8.toNat_inj.1 (by simpa using (by omega : c.toNat = 255)))
              have hb1 : ((c.toNat : Int) == 1) = false := by
                rw [beq_eq_false_iff_ne]
                exact fun e => hone (UInt8.toNat_inj.1 (by simpa using (by omega : c.toNat = 1)))
              clear hb hc hbad hd
              generalize (c.toNat : Int) = n at hx1 hb255 hb1
              go_wp2
              exact bodyPost_ret (results_ct rfl _ _ ra 36 #[.int .i64 0, .int .i64 0, .string ⟨#[]⟩] (0, 0) _ rfl Hs.blk Try.underlying36 rfl (by kernel_rfl)) rfl ⟨by first | rfl | (rw [hR]; rfl), by first | exact Hs.out 0 | (rw [hR]; exact Hs.out 0)⟩
        · have hR := hbad (by rcases drop_last s i h1 with e | ⟨b, e⟩ <;> rw [e] <;> simp [unesc])
          have hge : ¬ (i : Int) + 1 < (s.size : Int) := by omega
          have hge' : decide ((i : Int) + 1 < (s.size : Int)) = false := decide_eq_false hge
          clear hb hbad
          go_wp2
          exact bodyPost_ret (results_ct rfl _ _ ra 36 #[.int .i64 0, .int .i64 0, .string ⟨#[]⟩] (0, 0) _ rfl Hs.blk Try.underlying36 rfl (by kernel_rfl)) rfl ⟨by first | rfl | (rw [hR]; rfl), by first | exact Hs.out 0 | (rw [hR]; exact Hs.out 0)⟩
      · have hstep := Aside0.mk (show unesc [] s.toList = unesc (acc ++ [b]) (s.toList.drop (i + 1)) by rw [HU.out, drop_at s i h0, hb, unesc_ne _ _ hz])
        have hint : ints (acc ++ [b]) = ints acc ++ [(b.toNat : Int)] := by rw [ints_app]; rfl
        have hbz : ((b.toNat : Int) == 0) = false := by
          rw [beq_eq_false_iff_ne]
          exact fun e => hz (UInt8.toNat_inj.1 (by simpa using (by omega : b.toNat = 0)))
        have hbz' : ((b.toNat : Int) != 0) = true := by
          rw [bne_iff_ne]
          exact fun e => hz (UInt8.toNat_inj.1 (by simpa using (by omega : b.toNat = 0)))
        have hle : (ints acc).length + 1 ≤ 140737488355328 := by rw [ints_length]; omega
        have hlen : (acc ++ [b]).length ≤ i + 1 := by simp only [List.length_append, List.length_singleton]; omega
        clear hb hbad Hs p0 p1 p2
        generalize acc ++ [b] = acc' at hstep hint hlen
        generalize (b.toNat : Int) = n at hx0 hbz hbz' hint
        have HA : St w S wr [HP.row kU 5 u4 (ints acc), HP.cells kU n [.int .u8 n], HP.obj ra 36 [.int .i64 0, .int .i64 0, .string ⟨#[]⟩], HP.obj g 97 [.string s]] := (Hr.cells_ (d := kU) (x := n) (cs := [.int .u8 n]) rfl).mv 1
        go_wp2_with (first
          | ((with_reducible refine gate_dst (N := 30) rfl ?_); at_builtin; refine ev_append kU rfl (.tmp 22) (.tmp 29) 76 5 _ 1 rfl Try.underlying76 infoU rfl (by decide) (by omega) u4 (ints acc) n [.int .u8 n] rfl rfl HA (by omega) ?_; intro v3 w5 H5))
        go_roundw
        case rel => exact ⟨acc', i + 1, by go_num, by omega, hlen, hstep, by rw [hint]; exact H5⟩
        case measure => simp [intOf]; omega
    · have hR := hbad (by rw [drop_end s i (by omega)]; simp [unesc])
      have hge : ¬ (i : Int) < (s.size : Int) := by omega
      clear hbad
      go_wp2
      exact bodyPost_ret (results_ct rfl _ _ ra 36 #[.int .i64 0, .int .i64 0, .string ⟨#[]⟩] (0, 0) _ rfl Hs.blk Try.underlying36 rfl (by kernel_rfl)) rfl ⟨by first | rfl | (rw [hR]; rfl), by first | exact Hs.out 0 | (rw [hR]; exact Hs.out 0)⟩
end Go.Proofs.Ytkhbmamcbhjafaa.Keys
