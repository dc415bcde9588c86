/-
  Walks: bottomup.Families.
-/
import Derived.Test.YtcgfjacidjebaaaE4
namespace Go.Proofs.Ytcgfjacidjebaaa
open Go.RowKit

def famArg (V : Nat) (out : List (List Nat)) (a : Int) : List Nat := if a < V then [2 ^ a.toNat] else out.getD (a - V).toNat []
def famStep (V : Nat) (mark : List Bool) (nodes : List Nd) (out : List (List Nat)) (i : Nat) : Option (List (List Nat)) :=
  if mark.getD (V + i) false then (nodeK (nodes.getD i noNd).kind (nodes.getD i noNd).k ((nodes.getD i noNd).args.map (famArg V out))).map fun l => out.set i l else some out
def famsUp (V : Nat) (mark : List Bool) (nodes : List Nd) : Nat → Option (List (List Nat))
  | 0 => some (List.replicate nodes.length [])
  | k + 1 => (famsUp V mark nodes k).bind fun out => famStep V mark nodes out k
/-- The families of all needed nodes. -/
def famsK (V T : Nat) (nodes : List Nd) : Option (List (List Nat)) := famsUp V (belowK V T nodes) nodes nodes.length
theorem famsUp_none (V : Nat) (mark : List Bool) (nodes : List Nd) (m : Nat) (h : famsUp V mark nodes m = none) : ∀ k, m ≤ k → famsUp V mark nodes k = none := by
  intro k hk
  induction k with
  | zero => have : m = 0 := by omega
            subst this; exact h
  | succ k ih =>
    by_cases e : m = k + 1
    · subst e; exact h
    · unfold famsUp; rw [ih (by omega)]; rfl
theorem len_famsUp (V : Nat) (mark : List Bool) (nodes : List Nd) : ∀ k out, famsUp V mark nodes k = some out → out.length = nodes.length := by
  intro k
  induction k with
  | zero => intro out h; cases h; simp
  | succ k ih =>
    intro out h
    unfold famsUp at h
    cases h1 : famsUp V mark nodes k with
    | none => rw [h1] at h; cases h
    | some o =>
      rw [h1] at h
      simp only [Option.bind_some, famStep] at h
      split at h
      · cases h2 : nodeK (nodes.getD k noNd).kind (nodes.getD k noNd).k ((nodes.getD k noNd).args.map (famArg V o)) with
        | none => rw [h2] at h; cases h
        | some l => rw [h2] at h; cases h; simp [ih o h1]
      · cases h; exact ih _ h1
theorem mem_kindsUp (V : Nat) (mark : List Bool) (nodes : List Nd) (i : Nat) (h : mark.getD (V + i) false = true) : ∀ k, i < k → (nodes.getD i noNd).kind ∈ kindsUp V mark nodes k := by
  intro k hk
  induction k with
  | zero => omega
  | succ k ih =>
    unfold kindsUp
    by_cases e : i = k
    · subst e; rw [h]; simp
    · split
      · exact List.mem_append.2 (.inl (ih (by omega)))
      · exact ih (by omega)
theorem kind_mono {V T : Nat} {f : Fm} (hok : Ok f V T) (hs : synK V T f = true) (i : Nat) (hi : i < f.nodes.length) (h : (belowK V T f.nodes).getD (V + i) false = true) :
    f.nodes[i].kind = 0 ∨ f.nodes[i].kind = 2 ∨ f.nodes[i].kind = 3 ∨ f.nodes[i].kind = 4 := by
  have h1 := mem_kindsUp V _ f.nodes i h f.nodes.length hi
  unfold synK monoK at hs
  have h2 := List.all_eq_true.1 hs _ h1
  rw [show f.nodes.getD i noNd = f.nodes[i] by simp [List.getD_eq_getElem?_getD, hi]] at h2
  have h3 := hok.kind i hi
  simp at h2
  omega
def FRes (w' : World) (B : Nat) (e : Ending) (r : Option (List (List Nat))) : Prop :=
  match r with
  | some l => ∃ v, e = .returned (.tuple #[v, .nilIface]) ∧ OwnFams w' B v l
  | none => e = .returned (.tuple #[.slice none 0 0, errV 4])
theorem shl_mk (Y : Nat) (h : Y < 24) : wrap64 ((2 : Int) ^ Y) = ((2 ^ Y : Nat) : Int) ∧ Mk (2 ^ Y) := by
  have h1 : (2 : Nat) ^ Y < 2 ^ 24 := Nat.pow_lt_pow_right (by omega) h
  refine ⟨?_, h1⟩
  rw [show (2 : Int) ^ Y = ((2 ^ Y : Nat) : Int) by simp]
  generalize (2 : Nat) ^ Y = z at h1 ⊢
  unfold wrap64; omega
theorem OwnSets.shl (w : World) (Y : Nat) (h : Y < 24) : OwnSets (w.alloc (.cells #[.int .i64 (wrap64 ((2 : Int) ^ Y))] 3)) 0 (.slice (some ⟨w.heap.size, 0, none⟩) 1 1) [2 ^ Y] := by
  rw [(shl_mk Y h).1]
  exact OwnSets.one w 0 (2 ^ Y) (shl_mk Y h).2 (Nat.zero_le _)

set_option maxRecDepth 100000 in
set_option maxHeartbeats 2000000 in
theorem families_bad (v : Value) (f : Fm) (w : World) (hv : NodesAt w v f.nodes) (ht : f.top ≤ 9223372036854775807) (hck : chkF f ≠ 0) :
    Calls Try.prog 23 #[fmV v f] w fun e w' => e = .returned (.tuple #[.slice none 0 0, errV (chkF f)]) ∧ Kept w w' := by
  have h : ∀ W, Kept w W → Calls Try.prog 52 #[fmV v f] W fun e w' => e = .returned (.tuple #[.bool false, errV (chkF f)]) ∧ Kept W w' := fun W hk => syntax_err v f W (hv.kept hk) ht hck
  have H := Lib.hid h
  have E2 := Lib.hid (errV_pos hck)
  obtain ⟨q, hq⟩ : ∃ q, q = chkF f := ⟨_, rfl⟩
  rw [← hq] at H E2 ⊢
  clear hv ht hck hq h
  go_enter Try.func23, Try.ntmps23
  go_wp2_with (go_at_call 52; refine (H.out _ ((Kept.refl _).alloc _)).mono ?_; rintro e w1 ⟨rfl, hk1⟩; rw [E2.out])
  go_ret2
  exact ⟨by rw [E2.out]; rfl, (((Kept.refl _).alloc _).trans hk1)⟩
set_option maxRecDepth 100000 in
set_option maxHeartbeats 2000000 in
theorem families_typed (v : Value) (f : Fm) (V T : Nat) (w : World) (hv : NodesAt w v f.nodes) (hok : Ok f V T) (hck : chkF f = 0) (hs : synK V T f = false) :
    Calls Try.prog 23 #[.agg #[.int .i64 V, v, .int .i64 T]] w fun e w' => e = .returned (.tuple #[.slice none 0 0, errV 7]) ∧ Kept w w' := by
  have h : ∀ W, Kept w W → Calls Try.prog 52 #[.agg #[.int .i64 V, v, .int .i64 T]] W fun e w' => e = .returned (.tuple #[.bool false, .nilIface]) ∧ Kept W w' := fun W hk => by
    have := syntax_ok v f V T W (hv.kept hk) hok hck
    rw [hs] at this; exact this
  have H := Lib.hid h
  clear hv hok hck hs h
  go_enter Try.func23, Try.ntmps23
  go_wp2_with (go_at_call 52; refine (H.out _ ((Kept.refl _).alloc _)).mono ?_; rintro e w1 ⟨rfl, hk1⟩)
  go_ret2
  exact ⟨rfl, (((Kept.refl _).alloc _).trans hk1)⟩
set_option maxRecDepth 100000 in
set_option maxHeartbeats 8000000 in
theorem families_ok (v : Value) (f : Fm) (V T : Nat) (w : World) (hv : NodesAt w v f.nodes) (hok : Ok f V T) (hck : chkF f = 0) (hs : synK V T f = true) :
    Calls Try.prog 23 #[.agg #[.int .i64 V, v, .int .i64 T]] w fun e w' => FRes w' 0 e (famsK V T f.nodes) ∧ Kept w w' := by
  have h1 : ∀ W, Kept w W → Calls Try.prog 52 #[.agg #[.int .i64 V, v, .int .i64 T]] W fun e w' => e = .returned (.tuple #[.bool true, .nilIface]) ∧ Kept W w' := fun W hk => by
    have := syntax_ok v f V T W (hv.kept hk) hok hck
    rw [hs] at this; exact this
  have h2 : ∀ W, Kept w W → Calls Try.prog 53 #[.agg #[.int .i64 V, v, .int .i64 T]] W fun e w' => ∃ g, e = .returned (.slice (some ⟨g, 0, none⟩) (V + f.nodes.length) (V + f.nodes.length)) ∧ W.heap.size ≤ g ∧ RowAt w' g 4 ((belowK V T f.nodes).map .bool) ∧ Kept W w' := fun W hk => needed_any v f V T W (hv.kept hk) hok
  obtain ⟨r, hr⟩ : ∃ r, r = famsK V T f.nodes := ⟨_, rfl⟩
  rw [← hr]
  obtain ⟨mark, hmark⟩ : ∃ m, m = belowK V T f.nodes := ⟨_, rfl⟩
  have hml : mark.length = V + f.nodes.length := by rw [hmark, len_belowK]
  have hkm := fun i hi h => kind_mono hok hs i hi h
  unfold famsK at hr
  rw [← hmark] at hr h2 hkm
  obtain ⟨a, c, rfl, _, hl, hx⟩ := hv
  obtain ⟨n, hn⟩ : ∃ n, n = f.nodes.length := ⟨_, rfl⟩
  rw [← hn] at h1 h2 hml hr ⊢
  have hn9 : n ≤ 128 := by rw [hn]; exact hok.n128
  have hV9 := hok.v24
  have hT9 : T < V + n := by rw [hn]; exact hok.tlt
  have H1 := Lib.hid h1
  have H2 := Lib.hid h2
  have HX := Lib.hid hx
  have HN := Lib.hid hn
  have HO := Lib.hid hok
  have HR := Lib.hid hr
  have HML := Lib.hid hml
  have HKM := Lib.hid hkm
  clear h1 h2 hx hn hok hr hml hl hck hs hkm hmark
  go_enter Try.func23, Try.ntmps23
  go_wp2_with (first
    | (go_at_call 52; refine (H1.out _ ((Kept.refl _).alloc _)).mono ?_; rintro e w1 ⟨rfl, hk1⟩; have b0 := hk1.cell (p := ⟨w.heap.size, 0, none⟩) (v := .int .i64 V) (by simp); have b1 := hk1.cell (p := ⟨w.heap.size, 1, none⟩) (v := .slice a n c) (by simp); have b2 := hk1.cell (p := ⟨w.heap.size, 2, none⟩) (v := .int .i64 T) (by simp))
    | (go_at_call 53; refine (H2.out _ (((Kept.refl _).alloc _).trans hk1)).mono ?_; rintro e w2 ⟨gn, rfl, hgn, hrn, hk2⟩; have d0 := hk2.cell b0; have d1 := hk2.cell b1; have HRN := Lib.hid hrn; clear hrn)
    | (at_make; refine make_fam rfl _ _ rfl n rfl rfl (by omega) ?_; intro w3 ho3 hk3 hz3; have c0 := hk3.cell d0; have c1 := hk3.cell d1; have O3 := Lib.hid ho3; clear ho3))
  have hkb : Kept (w.alloc (.cells #[.int .i64 V, .slice a n c, .int .i64 T] 24)) w2 := hk1.trans hk2
  have HKB := Lib.hid hkb
  have HK3 := Lib.hid hk3
  clear b0 b1 b2 d0 d1 c0 c1 hkb hk1 hk2 hk3
  go_loopw [5, 8, 9, 10, 12, 33, 49] (fun _ _ _ _ _ i _ wr => ∃ (k : Nat) (out : List (List Nat)), k ≤ n ∧ i = .int .i64 k ∧ Hid (famsUp V mark f.nodes k = some out ∧ OwnFams wr w2.heap.size (.slice (some ⟨w2.heap.size, 0, none⟩) n n) out) ∧ Kept w2 wr) (fun _ _ _ _ _ i _ _ => n - (intOf i).toNat)
  case atStart => exact ⟨0, List.replicate n [], Nat.zero_le _, rfl, Lib.hid ⟨by rw [HN.out]; rfl, O3.out⟩, HK3.out⟩
  case round =>
    obtain ⟨k, out, hk, rfl, HI, hK⟩ := hrel
    have hkW := HKB.out.trans hK
    have q0 := hkW.cell (p := ⟨w.heap.size, 0, none⟩) (v := .int .i64 V) (by simp)
    have q1 := hkW.cell (p := ⟨w.heap.size, 1, none⟩) (v := .slice a n c) (by simp)
    by_cases hlt : k < n
    · have hkx : k < f.nodes.length := by have := HN.out; omega
      have hol : out.length = n := by rw [len_famsUp V mark f.nodes k out HI.out.1, HN.out]
      have hup : famsUp V mark f.nodes (k + 1) = famStep V mark f.nodes out k := by
        show ((famsUp V mark f.nodes k).bind fun out => famStep V mark f.nodes out k) = _
        rw [HI.out.1]; rfl
      have hmc := (HRN.out.kept hK).cell (i := V + k) (by simp [HML.out]; omega)
      rw [getD_map_bool mark (V + k) (by rw [HML.out]; omega)] at hmc
      obtain ⟨b, o, rfl, u, hc1, hc2, hc3, hI⟩ := HX.out k hkx
      have hkA : Kept w wr := ((Kept.refl w).alloc (.cells #[.int .i64 V, .slice (some ⟨b, o, none⟩) n c, .int .i64 T] 24)).trans hkW
      have hrange := node_range (hkA.cell hc1) (hkA.cell hc2) (hkA.cell hc3)
      obtain ⟨ax, cx, rfl, _, hlx, hcx⟩ := hI
      have hargs := HO.out.args k hkx
      have h16 := argsOk_le (HO.out.argc k hkx)
      have hargc := HO.out.argc k hkx
      have harit := HO.out.arity k hkx
      have hmono := HKM.out k hkx
      have hstep : famStep V mark f.nodes out k = if mark.getD (V + k) false then (nodeK f.nodes[k].kind f.nodes[k].k (f.nodes[k].args.map (famArg V out))).map (fun l => out.set k l) else some out := by
        unfold famStep
        rw [show f.nodes.getD k noNd = f.nodes[k] by simp [List.getD_eq_getElem?_getD, hkx]]
      rw [hstep] at hup
      obtain ⟨kd, hkd⟩ : ∃ x, x = f.nodes[k].kind := ⟨_, rfl⟩
      obtain ⟨kk, hkk⟩ : ∃ x, x = f.nodes[k].k := ⟨_, rfl⟩
      obtain ⟨args, hag⟩ : ∃ x, x = f.nodes[k].args := ⟨_, rfl⟩
      rw [← hag] at hcx hargs hlx h16 hargc harit hup hrange
      rw [← hkd] at hargc harit hmono hup hrange
      rw [← hkk] at harit hup hrange
      obtain ⟨na, hna⟩ : ∃ x, x = args.length := ⟨_, rfl⟩
      rw [← hna] at hlx h16 hargc harit hrange
      have HRG := Lib.hid hrange
      have HUP := Lib.hid hup
      have HCX := Lib.hid hcx
      have HAR := Lib.hid hargs
      have HNA := Lib.hid hna
      have HGC := Lib.hid hargc
      have HRT := Lib.hid harit
      have HMO := Lib.hid hmono
      have HKA := Lib.hid hkA
      have HK := Lib.hid hK
      have hi1 : (V : Int) + (k : Int) < (V : Int) + (n : Int) := by omega
      have hi2 : (V : Int) + (k : Int) < ((V + n : Nat) : Int) := by omega
      have hgl : gn < wr.heap.size := Nat.lt_of_lt_of_le HRN.out.lt hK.size
      have hlw : w.heap.size < wr.heap.size := by have := hkW.size; simp at this; omega
      clear hc1 hc2 hc3 hrange hup hcx hargs hna hargc harit hmono hkA hK hkW hstep hkd hkk hag
      cases hmk : mark.getD (V + k) false with
      | false =>
        rw [hmk] at hmc
        have HMK := Lib.hid hmk
        clear hmk
        go_wp2_with (with_reducible refine wpList_load_mid rfl 47 _ rfl b (o + k * 3) rfl _ _ HRG.out Try.underlying47 rfl (by kernel_rfl) ?_)
        go_roundw
        case rel => exact ⟨k + 1, out, by omega, by go_num, Lib.hid ⟨by rw [HUP.out, HMK.out]; rfl, HI.out.2.kept ((Kept.refl _).alloc _)⟩, HK.out.alloc _⟩
        case measure => simp [intOf]; omega
      | true =>
        rw [hmk] at hmc
        have HMK := Lib.hid hmk
        clear hmk
        go_wp2_with (with_reducible refine wpList_load_mid rfl 47 _ rfl b (o + k * 3) rfl _ _ HRG.out Try.underlying47 rfl (by kernel_rfl) ?_)
        obtain ⟨wo, rfl⟩ : ∃ wo : World, wo = wr := ⟨_, rfl⟩
        clear hmc
        go_loopw [10, 12, 49] (fun av _ j wi => ∃ (p : Nat) (acc : List (List Nat)), p ≤ na ∧ j = .int .i64 p ∧ Hid (acc = (args.take p).map (famArg V out)) ∧ OwnFams wi (wo.heap.size + 1) av acc ∧ Kept (wo.alloc (.cells #[.int .i64 kd, .int .i64 kk, .slice ax na cx] 47)) wi) (fun _ _ j _ => na - (intOf j).toNat)
        case atStart => exact ⟨0, [], Nat.zero_le _, rfl, Lib.hid rfl, OwnFams.nil _ _, Kept.refl _⟩
        case round =>
          obtain ⟨p, acc, hp, rfl, HA, hacc, hKi⟩ := hrel
          have hsi := hKi.size
          simp only [World.size_alloc] at hsi
          have hal : acc.length ≤ 16 := by rw [HA.out]; simp; omega
          have hKw : Kept wo wr := ((Kept.refl _).alloc _).trans hKi
          have q0 := (HKB.out.trans (HK.out.trans hKw)).cell (p := ⟨w.heap.size, 0, none⟩) (v := .int .i64 V) (by simp)
          by_cases hpn : p < na
          · have hpx : p < args.length := by have := HNA.out; omega
            obtain ⟨b2, o2, rfl, hc0⟩ := HCX.out p hpx
            have hcell := (HKA.out.trans hKw).cell hc0
            obtain ⟨y, hy⟩ : ∃ y, y = args[p] := ⟨_, rfl⟩
            have hy2 := HAR.out args[p] (List.getElem_mem _)
            rw [← hy] at hcell hy2
            obtain ⟨Y, hY⟩ := Int.eq_ofNat_of_zero_le hy2.1
            subst hY
            have hst : (args.take (p + 1)).map (famArg V out) = acc ++ [famArg V out (Y : Int)] := by
              rw [List.take_succ_eq_append_getElem hpx, List.map_append, ← HA.out, ← hy]; rfl
            have HST := Lib.hid hst
            have HAC := Lib.hid hacc
            have HKI := Lib.hid hKi
            clear hc0 hy hst hacc hKi
            by_cases hYV : Y < V
            · have hYV2 : (Y : Int) < (V : Int) := by omega
              have hfa : famArg V out (Y : Int) = [2 ^ Y] := by unfold famArg; rw [if_pos hYV2]; rfl
              have HFA := Lib.hid hfa
              clear hfa
              go_wp2_with (at_builtin; refine app_fam rfl _ _ rfl (wo.heap.size + 1) _ acc rfl (HAC.out.kept (((Kept.refl _).alloc _).alloc _)) _ _ [2 ^ Y] rfl (by simp) ((OwnSets.shl wr Y (by omega)).kept ((Kept.refl _).alloc _)) (by omega) (by simp; omega) ?_; intro nv' w7 hown7 hg7 hb7; have O7 := Lib.hid hown7; clear hown7)
              go_roundw
              case rel => exact ⟨p + 1, _, by omega, by go_num, Lib.hid (by rw [HST.out, HFA.out]), O7.out, (HKI.out.alloc _).alloc _ |>.app (hb7.mono (by simp))⟩
              case measure => simp [intOf]; omega
            · have hYV2 : ¬ (Y : Int) < (V : Int) := by omega
              obtain ⟨Z, hZ⟩ : ∃ Z, Y = V + Z := ⟨Y - V, by omega⟩
              subst hZ
              have hZk : Z < k := by omega
              have hZn : (Z : Int) < (n : Int) := by omega
              obtain ⟨uz, hcz0, huz0⟩ := HI.out.2.cell Z (by omega)
              have hcz := hKw.cell hcz0
              have huz := huz0.kept hKw
              obtain ⟨za, zn, zc, rfl⟩ := huz.1.ints.shape
              have hfa : famArg V out ((V + Z : Nat) : Int) = out[Z]'(by omega) := by
                unfold famArg
                rw [if_neg hYV2, show (((V + Z : Nat) : Int) - (V : Int)).toNat = Z by omega]
                simp [List.getD_eq_getElem?_getD, show Z < out.length by omega]
              have HFA := Lib.hid hfa
              have HUZ := Lib.hid huz
              clear hfa huz hcz0 huz0
              go_wp2_with (at_builtin; refine app_fam rfl _ _ rfl (wo.heap.size + 1) _ acc rfl (HAC.out.kept ((Kept.refl _).alloc _)) _ _ (out[Z]'(by omega)) rfl (by simp) (HUZ.out.kept ((Kept.refl _).alloc _)) (by omega) (by simp; omega) ?_; intro nv' w7 hown7 hg7 hb7; have O7 := Lib.hid hown7; clear hown7)
              go_roundw
              case rel => exact ⟨p + 1, _, by omega, by go_num, Lib.hid (by rw [HST.out, HFA.out]), O7.out, (HKI.out.alloc _) |>.app (hb7.mono (by simp))⟩
              case measure => simp [intOf]; omega
          · have e : p = na := by omega
            have hfull : acc = args.map (famArg V out) := by rw [HA.out, e, List.take_of_length_le (by have := HNA.out; omega)]
            have hlen : acc.length = na := by rw [hfull]; simp; exact HNA.out.symm
            have hne : kd ≠ 0 → acc ≠ [] := by
              intro h0 he
              have := HGC.out
              rw [he] at hlen
              simp at hlen
              unfold argsOk at this
              rw [if_neg h0, ← hlen] at this
              split at this <;> simp at this
            have h4 : kd = 4 → 1 ≤ kk ∧ kk ≤ acc.length := by
              intro h0
              have := HRT.out
              unfold chkK at this
              rw [if_neg (by omega), if_pos h0] at this
              split at this
              · rename_i h; rw [hlen]; exact h
              · cases this
            have hcall : ∀ W, Kept wr W → Calls Try.prog 54 #[.agg #[.int .i64 kd, .int .i64 kk, .slice ax na cx], u10] W fun e w' => LRes w' 0 e (nodeK kd kk acc) ∧ Kept W w' := fun W hkw2 => node_any kd kk ax na cx u10 acc W (hacc.at.kept hkw2) hne h4 (by omega) (HMO.out HMK.out)
            obtain ⟨uo, hco0, _⟩ := HI.out.2.cell k (by omega)
            have hco := hKw.cell hco0
            have hfo := hKw.free (p := ⟨w2.heap.size, k, none⟩) (World.block_lt_of_cell? _ _ hco0) (HI.out.2.free k)
            have hnb := (RowAt.made wo #[.int .i64 kd, .int .i64 kk, .slice ax na cx] 47).kept hKi
            have hrb : wr.rangeAt wo.heap.size 0 [.int .i64 kd, .int .i64 kk, .slice ax na cx] := by
              intro j v hj
              match j, hj with
              | 0, hj => simp at hj; subst hj; exact hnb.cell (i := 0) (by simp)
              | 1, hj => simp at hj; subst hj; exact hnb.cell (i := 1) (by simp)
              | 2, hj => simp at hj; subst hj; exact hnb.cell (i := 2) (by simp)
            have hup2 : famsUp V mark f.nodes (k + 1) = (nodeK kd kk acc).map (fun l => out.set k l) := by rw [HUP.out, HMK.out, if_pos rfl, ← hfull]
            have HCL := Lib.hid hcall
            have HRB := Lib.hid hrb
            have HUP2 := Lib.hid hup2
            have HKW := Lib.hid hKw
            have hkn : (k : Int) < (n : Int) := by omega
            clear hcall hrb hup2 hnb hne h4 hfull hlen e hacc hKi hKw hco0 HA
            cases hnk : nodeK kd kk acc with
            | none =>
              have HNK := Lib.hid hnk
              clear hnk
              go_wp2_with (first
                | (with_reducible refine wpList_load_mid rfl 47 _ rfl wo.heap.size 0 rfl _ _ HRB.out Try.underlying47 rfl (by kernel_rfl) ?_)
                | (go_at_call 54; refine (HCL.out _ (Kept.refl _)).mono ?_; rintro e w8 ⟨he, hk8⟩; rw [HNK.out] at he; unfold LRes at he; subst he; rw [errV_pos (show (4 : Nat) ≠ 0 by decide)]; have hc8 := hk8.cell hco; have hf8 := hk8.free (World.block_lt_of_cell? _ _ hco) hfo))
              go_ret2
              have hrn : r = none := by rw [HR.out]; exact famsUp_none V mark f.nodes (k + 1) (by rw [HUP2.out, HNK.out]; rfl) n (by omega)
              have hz2 : w.heap.size ≤ w2.heap.size := by have := HKB.out.size; simp at this; omega
              exact ⟨by rw [hrn]; rfl, ((HKA.out.trans (HKW.out.trans hk8)).store hz2 _ _)⟩
            | some l =>
              have HNK := Lib.hid hnk
              clear hnk
              go_wp2_with (first
                | (with_reducible refine wpList_load_mid rfl 47 _ rfl wo.heap.size 0 rfl _ _ HRB.out Try.underlying47 rfl (by kernel_rfl) ?_)
                | (go_at_call 54; refine (HCL.out _ (Kept.refl _)).mono ?_; rintro e w8 ⟨he, hk8⟩; rw [HNK.out] at he; unfold LRes at he; obtain ⟨v8, rfl, ho8⟩ := he; obtain ⟨xa, xn, xc, rfl⟩ := ho8.1.ints.shape; have hc8 := hk8.cell hco; have hf8 := hk8.free (World.block_lt_of_cell? _ _ hco) hfo; have O8 := Lib.hid ho8; clear ho8))
              go_roundw
              case rel => exact ⟨k + 1, out.set k l, by omega, by go_num, Lib.hid ⟨by rw [HUP2.out, HNK.out]; rfl, (HI.out.2.kept (HKW.out.trans hk8)).store hol.symm k O8.out⟩, (HK.out.trans (HKW.out.trans hk8)).store (Nat.le_refl _) _ _⟩
              case measure => simp [intOf]; omega
    · have e : k = n := by omega
      have hrr : r = some out := by rw [HR.out, ← e]; exact HI.out.1
      have HRR := Lib.hid hrr
      have HKWn := Lib.hid (((Kept.refl w).alloc _).trans hkW)
      clear hrr hkW e
      go_wp2
      go_ret2
      exact ⟨by rw [HRR.out]; exact ⟨_, rfl, HI.out.2.mono (Nat.zero_le _)⟩, HKWn.out⟩
end Go.Proofs.Ytcgfjacidjebaaa
