/- Contracts of the program's functions, and plain laws (Pgc2, Eu3, Pgc3, Rgc1, Law26), for every input that their premises let in. -/
import Derived.Test.YtgalbnkcijmnnaaGreatDoorY5
set_option maxRecDepth 100000
set_option maxHeartbeats 8000000
namespace Go.Proofs.YtgalbnkcijmnnaaGreatDoor
open Go.RowKit
theorem pscale_c (w : World) (r g : Nat) (p : Int) (v : Value) (xs : List Int) (c : Int) (hc0 : 0 ≤ c) (h : Rg w r g p) (hv : Sl w v xs) (hl : xs.length ≤ 1000000) :
  Calls Tryz.prog 73 #[.pointer (some ⟨r, 0, none⟩), v, .int .u64 c] w fun e w' => ∃ x, e = .returned x ∧ Po w' w.heap.size x p (fun z => c * ev xs z) xs.length ∧ w.grownBy w' none := by
 have hp := h.m.neg0
 have hp' := h.m.pm.hi
 obtain ⟨A, ca, rfl, hnc, hc2⟩ := hv.form
 have HV := lk hv
 obtain ⟨n, hn⟩ : ∃ n, n = xs.length := ⟨_, rfl⟩
 rw [← hn] at hnc hl ⊢
 have mk := make64 25 (by kernel_rfl) n n (n : Int) (n : Int) (by omega) (by omega) (by omega) (by omega)
 have OW := lk (own_made w w.heap.size n n (Nat.le_refl _) (by omega) (by omega))
 have G0 := lk (ju (jr w none) (Obj.cells (madeCells #[.int .u64 0] n) 24))
 have HN := lk hn
 have HR := lk h
 clear hv hn h
 go_enter Tryz.func73, Tryz.ntmps73
 go_wp2
 clear mk
 go_loopw [15] (fun v15 wr => ∃ (i : Nat) (os : List Int), v15 = .int .i64 i ∧ i ≤ n ∧ Mp (fun j => rd xs j * c % p) n i os ∧ Own wr w.heap.size (.slice (some ⟨w.heap.size, 0, none⟩) n n) os ∧ w.grownBy wr none) (fun v15 _ => n - (intOf v15).toNat)
 case atStart => exact ⟨0, _, rfl, by omega, Mp.start _ n, OW.out, G0.out⟩
 case round =>
  clear OW G0
  obtain ⟨i, os, rfl, hi, mp, ow, G⟩ := hrel
  have MP := lk mp
  have OW := lk ow
  have GG := lk G
  clear mp ow G
  by_cases hlt : i < n
  ·obtain ⟨b, o, rfl, hci⟩ := (HV.out.grown0 GG.out).at i (by rw [← HN.out]; exact hlt)
   have R := HR.out.grown0 GG.out
   have hrc := R.c
   have x0 := (rd_w HV.out.ws i).1
   have MS := lk (MP.out.step hlt)
   obtain ⟨x, hx⟩ : ∃ x, x = rd xs i := ⟨_, rfl⟩
   rw [← hx] at hci x0 MS
   have ML := lk (modMul_c wr g p x c R.m x0 hc0)
   have mm := mod_nn (x := x * c) hp
   obtain ⟨z, hz⟩ : ∃ z, z = x * c % p := ⟨_, rfl⟩
   rw [← hz] at mm MS ML
   clear hx R hz
   go_wp2_with fail
   refine (ML.out).mono ?_
   rintro e w1 ⟨rfl, g2⟩
   have G2 := lk (jt GG.out g2)
   have OW2 := lk (OW.out.grown0 g2)
   have fr := OW2.out.free i
   have ce := OW2.out.cell i (by rw [MP.out.len]; exact hlt)
   have OW3 := lk (OW2.out.store i mm.1 (by omega))
   clear ML g2
   go_wp2
   go_roundw
   case rel => exact ⟨i + 1, _, by go_num, by omega, MS.out, OW3.out, gb_set (p := ⟨w.heap.size, i, none⟩) G2.out (Nat.le_refl _) _⟩
   case measure => simp [intOf]; omega
  ·obtain rfl : i = n := by omega
   have TR := lk (ptrim_c wr _ _ _ _ OW.out.sl)
   go_wp2_with fail
   refine (TR.out).mono ?_
   rintro e w1 ⟨rfl, rfl⟩
   go_wp2
   go_ret
   refine ⟨_, rfl, OW.out.po (MP.out.r hp (fun j _ => mod_nn hp) (Nat.le_refl _)) ?_ (by rw [MP.out.len]; exact Nat.le_refl _), GG.out⟩
   refine (MP.out.eqv (zs := pscl c xs) (fun j _ => (Cg.mod _ _).trans (Cg.of_eq ?_)) ?_).fn fun x => ?_
   ·rw [rd_pscl, Int.mul_comm]
   ·rw [pscl, List.length_map, ← HN.out]; exact Nat.le_refl _
   ·rw [ev_pscl]
theorem pmonic_c (w : World) (r g : Nat) (p : Int) (hF : ∀ x, 0 < x → x < p → Int.gcd p x = 1) (v : Value) (xs zs : List Int) (h : Rg w r g p) (hv : Sl w v xs) (hl : xs.length ≤ 1000000) (nz : Nf p zs) (ez : Eqv p (ev zs) (ev xs)) :
  Calls Tryz.prog 68 #[.pointer (some ⟨r, 0, none⟩), v] w fun e w' => ∃ x y, e = .returned (.tuple #[x, .bool (decide (0 < zs.length))]) ∧ Own w' w.heap.size x y ∧ Mo p zs y ∧ w.grownBy w' none := by
 have hp := h.m.neg0
 have NM := lk (pnorm_c w r g p v xs h hv hl)
 have HR := lk h
 have NZ := lk (And.intro nz ez)
 have HL := lk hl
 clear hv h nz ez
 go_enter Tryz.func68, Tryz.ntmps68
 go_wp2_with fail
 refine (NM.out).mono ?_
 rintro e w1 ⟨x1, rfl, ⟨ys, oy, ny, ey, ly⟩, g1⟩
 obtain rfl := ny.one NZ.out.1 hp ey NZ.out.2
 have G1 := lk g1
 obtain ⟨A, ca, rfl, hca, _⟩ := oy.fm
 have OY := lk oy
 have SY := lk oy.sl
 have LY := lk ly
 obtain ⟨n, hn⟩ : ∃ n, n = ys.length := ⟨_, rfl⟩
 rw [← hn] at hca OY SY ⊢
 have HN := lk hn
 clear NM oy ny ey ly g1 hn
 by_cases n0 : n = 0
 ·subst n0
  have e : ys = [] := List.length_eq_zero_iff.1 HN.out.symm
  subst e
  go_wp2
  go_ret2
  exact ⟨_, [], rfl, own_nil _ _, .inl ⟨rfl, rfl⟩, G1.out⟩
 ·have nb : ((n : Int) == 0) = false := by simp; omega
  obtain ⟨m, hm⟩ : ∃ m, n = m + 1 := ⟨n - 1, by omega⟩
  have em : (n : Int) - 1 = (m : Int) := by omega
  have hmn : m < n := by omega
  obtain ⟨b, o, rfl, hci⟩ := SY.out.at m (by rw [← HN.out]; exact hmn)
  have x0 := NZ.out.1.rd hp m
  have xt : rd ys m ≠ 0 := by
   have h1 := Nz.top NZ.out.1.z (by rw [← HN.out]; omega)
   rwa [show ys.length - 1 = m by rw [← HN.out]; omega] at h1
  have et : Hid (ys.length - 1 = m) := lk (by rw [← HN.out]; omega)
  obtain ⟨x, hx⟩ : ∃ x, x = rd ys m := ⟨_, rfl⟩
  rw [← hx] at hci x0 xt
  have HX := lk hx
  have R := HR.out.grown0 (jw G1.out)
  have IV := lk (modInv_c w1.drew g p x R.m x0.1)
  have t0 := (HR.out.grown0 G1.out).c
  have GC := lk (hF x (by omega) x0.2)
  clear hx hm R
  go_wp2
  refine Canon.region_canon (by kernel_rfl) (by kernel_rfl) ?_
  go_wp2_with fail
  refine (IV.out).mono ?_
  rintro e w2 ⟨⟨c, f, rfl, io⟩, g2⟩
  obtain ⟨rfl, i0, i1, ic⟩ := io.is GC.out
  have IC := lk ic
  have G2 := lk (jt (jw G1.out) g2)
  have SC := lk (pscale_c w2 r g p (.slice (some ⟨b, o, none⟩) n ca) ys c i0 (HR.out.grown0 G2.out) (SY.out.grown0 (jt (jw (jr w1 none)) g2)) (by have := LY.out; omega))
  clear io ic IV g2 hci t0
  go_wp2
  refine ⟨by kernel_rfl, ?_⟩
  go_wp2_with fail
  refine (SC.out).mono ?_
  rintro e w3 ⟨x3, rfl, ⟨z3, o3, n3, e3, l3⟩, g3⟩
  go_wp2
  go_ret2
  exact ⟨_, z3, by rw [decide_eq_true (by rw [← HN.out]; omega)]; rfl, o3.mono G2.out.size, .inr ⟨by rw [← HN.out]; omega, n3, c, by rw [et.out, ← HX.out]; exact IC.out, e3⟩, jt G2.out g3⟩
end Go.Proofs.YtgalbnkcijmnnaaGreatDoor
namespace Go.Proofs.YtgalbnkcijmnnaaGreatDoor
theorem Mo.len {p : Nat} (hp : Pri p) {a z : List Int} (ha : Nf p a) (h : Mo p a z) : z.length = a.length := by
  rcases h with ⟨rfl, rfl⟩ | ⟨la, nz, k⟩
  · rfl
  · exact (((Mo.self hp ha (.inr ⟨la, nz, k⟩)).1).const hp ha nz la).2.1.symm
def sgn (n : Nat) : Int := if n % 2 = 0 then 1 else -1
theorem Euc.ei {p : Int} {m N : Nat} {a b za zb : List Int} {n : Nat} {s : Em} (h : Euc p m N a b za zb n s) : Ei p a b (sgn n) s := h.2.1
theorem Euc.el {p : Int} {m N : Nat} {a b za zb : List Int} {n : Nat} {s : Em} (h : Euc p m N a b za zb n s) : El N s := h.2.2.1
theorem Euc.le {p : Int} {m N : Nat} {a b za zb : List Int} {n : Nat} {s : Em} (h : Euc p m N a b za zb n s) : s.d.length + n ≤ zb.length := h.2.2.2
def Xg (p : Int) (N : Nat) (a b za zb g x y : List Int) : Prop := ∃ n s, Euc p 0 N a b za zb n s ∧ s.d = [] ∧
  ((s.c = [] ∧ g = [] ∧ x = [] ∧ y = []) ∨
   (0 < s.c.length ∧ ∃ c : Int, (0 ≤ c ∧ c < p) ∧ Cg p (c * rd s.c (s.c.length - 1)) 1 ∧ (Nf p g ∧ Eqv p (ev g) (fun z => c * ev s.c z)) ∧ (Nf p x ∧ Eqv p (ev x) (fun z => c * (sgn n * ev s.D z))) ∧ (Nf p y ∧ Eqv p (ev y) (fun z => c * (-(sgn n * ev s.B z))))))
theorem inv_one {p c c' t : Int} (b : 0 ≤ c ∧ c < p) (b' : 0 ≤ c' ∧ c' < p) (h : Cg p (c * t) 1) (k : Cg p (c' * t) 1) : c = c' := by
  have h1 := h.mull c'
  have h2 := k.mull c
  have e : c' * (c * t) = c * (c' * t) := by grind
  rw [e] at h1
  have := h2.symm.trans h1
  rw [Int.mul_one, Int.mul_one] at this
  exact this.eq b.1 b.2 b'.1 b'.2
theorem Xg.one {p : Nat} (hp : Pri p) {N N' : Nat} {a b a' b' za zb g x y g' x' y' : List Int} (hb : Nf p zb) (h : Xg p N a b za zb g x y) (k : Xg p N' a' b' za zb g' x' y') : g = g' ∧ x = x' ∧ y = y' := by
  have hp0 : (0 : Int) < p := by have := hp.1; omega
  obtain ⟨n, s, h1, h2, h3⟩ := h
  obtain ⟨n', s', k1, k2, k3⟩ := k
  obtain ⟨rfl, rfl⟩ := h1.one hp hb k1 (by rw [h2]; simp) (by rw [k2]; simp)
  rcases h3 with ⟨e, rfl, rfl, rfl⟩ | ⟨l, c, bc, hc, ⟨n1, e1⟩, ⟨n2, e2⟩, ⟨n3, e3⟩⟩
  · rcases k3 with ⟨_, rfl, rfl, rfl⟩ | ⟨l, _⟩
    · exact ⟨rfl, rfl, rfl⟩
    · rw [e] at l; simp at l
  · rcases k3 with ⟨e, _⟩ | ⟨_, c', bc', hc', ⟨m1, f1⟩, ⟨m2, f2⟩, ⟨m3, f3⟩⟩
    · rw [e] at l; simp at l
    · obtain rfl := inv_one bc bc' hc hc'
      exact ⟨n1.one m1 hp0 e1 f1, n2.one m2 hp0 e2 f2, n3.one m3 hp0 e3 f3⟩
theorem Xg.mo {p : Int} {N : Nat} {a b za zb g x y : List Int} (h : Xg p N a b za zb g x y) : ∃ m, Nf p m ∧ Gd p (ev a) (ev b) m ∧ Mo p m g := by
  obtain ⟨n, s, h1, h2, h3⟩ := h
  refine ⟨s.c, h1.ei.nc, h1.ei.gd h2, ?_⟩
  rcases h3 with ⟨e, rfl, _, _⟩ | ⟨l, c, bc, hc, ⟨n1, e1⟩, _⟩
  · exact .inl ⟨e, rfl⟩
  · exact .inr ⟨l, n1, c, hc, e1⟩
def Gch (p : Int) (X : Nat → List Int) : Nat → List Int → Prop
  | 0, g => g = []
  | n + 1, g => Nf p g ∧ ∃ f, Gch p X n f ∧ Gd p (ev (X n)) (ev f) g
theorem Gch.nf {p : Int} {X : Nat → List Int} : ∀ {n : Nat} {g : List Int}, Gch p X n g → Nf p g
  | 0, g, h => (show g = [] from h) ▸ nf_nil p
  | _ + 1, _, h => h.1
def Hch (p : Int) (X : Nat → List Int) : Nat → List Int → Prop
  | 0, h => h = []
  | n + 1, h => ∃ f m, Hch p X n f ∧ Nf p m ∧ Gd p (ev f) (ev (X n)) m ∧ Mo p m h
theorem ch_asc {p : Nat} (hp : Pri p) {X : Nat → List Int} : ∀ {n : Nat} {g h : List Int}, Gch p X n g → Hch p X n h → Asc p g h ∧ Nf p h ∧ Mo p h h
  | 0, g, h, a, b => by
    obtain rfl : g = [] := a
    obtain rfl : h = [] := b
    exact ⟨Asc.refl _ _, nf_nil _, .inl ⟨rfl, rfl⟩⟩
  | n + 1, g, h, ⟨ng, f, a, d⟩, ⟨f', m, b, nm, e, mo⟩ => by
    obtain ⟨ac, nf, _⟩ := ch_asc hp a b
    obtain ⟨s1, s2⟩ := mo.self hp nm
    exact ⟨(d.asc e.symm ac).trans s1, mo.nf, s2⟩
theorem ch_one {p : Nat} (hp : Pri p) {X : Nat → List Int} {n : Nat} {g h z : List Int} (a : Gch p X n g) (b : Hch p X n h) (k : Mo p g z) : z = h := by
  obtain ⟨ac, nh, mh⟩ := ch_asc hp a b
  exact k.asc hp a.nf nh ac mh
end Go.Proofs.YtgalbnkcijmnnaaGreatDoor
namespace Go.Proofs.YtgalbnkcijmnnaaGreatDoor
open Go.RowKit
theorem ptwo_c {u : Tb} (hu : TbOk u) (p : Nat) (hp : Pri p) (hF : ∀ x, 0 < x → x < (p : Int) → Int.gcd (p : Int) x = 1) (h d g : Nat) (I : Pix) (w : World) (a : Int) (c : Mc) (U V : Value) (za zb : List Int) (k : Pg w u p h d g I a c) (hd : Db w) (ha : a ≤ 700000000000000) (hU : Sl w U za) (hV : Sl w V zb) (na : Nf p za) (nb : Nf p zb) (hl : za.length ≤ 100) (hl2 : zb.length ≤ 100) :
  Calls Tryz.prog 66 #[.pointer (some ⟨h, 0, none⟩), U, V] w fun e w' => ∃ x z a' c', e = .returned x ∧ Sl w' x z ∧ Nf p z ∧ z.length ≤ 100 ∧ Gd p (ev za) (ev zb) z ∧ Pg w' u p h d g I a' c' ∧ a' ≤ a + 500000000000 ∧ w.grownBy w' (some I.gm) := by
 have hp0 : (0 : Int) < p := by have := hp.1; omega
 have PK := lk k
 have HD := lk (fun w1 (g : w.grownBy w1 (some I.gm)) => Db.gm k.d.q hd g)
 have HU := lk hU
 have HV := lk hV
 have E0 : Hid (Euc p 0 100 za zb za zb 0 ⟨[1], [], [], [1], za, zb⟩) := lk (Euc.start (by have := hp.1; omega) na (Eqv.refl _ _) nb (Eqv.refl _ _) hl hl2)
 have HF := lk hF
 have HPR := lk hp
 have P0 := lk hp0
 clear k hd hU hV hF hp hp0 na nb
 go_enter Tryz.func66, Tryz.ntmps66
 go_wp2
 go_loopw [1, 2] (fun v1 v2 wr => ∃ (n : Nat) (s : Em) (x1 x2 : Value) (a' : Int) (c' : Mc), (x1 = v1 ∧ x2 = v2) ∧ Euc p 0 100 za zb za zb n s ∧ (Sl wr x1 s.c ∧ Sl wr x2 s.d ∧ s.c.length ≤ 100 ∧ s.d.length ≤ 100) ∧ Pg wr u p h d g I a' c' ∧ a' ≤ a + (n : Int) * 4000000000 ∧ w.grownBy wr (some I.gm)) (fun _ v2 _ => slenP v2)
 case atStart => exact ⟨0, _, _, _, a, c, ⟨rfl, rfl⟩, E0.out, ⟨HU.out, HV.out, hl, hl2⟩, PK.out, by omega, jr _ _⟩
 case round =>
  clear E0 PK HU HV
  obtain ⟨n, s, x1, x2, a', c', ⟨rfl, rfl⟩, eu, ⟨s1, s2, lc, ld⟩, pk, ha', G⟩ := hrel
  obtain ⟨wq, rfl⟩ : ∃ wq : World, wq = wr := ⟨_, rfl⟩
  have EU := lk eu
  have S1 := lk s1
  have S2 := lk s2
  have PK := lk pk
  have HA := lk ha'
  have GG := lk G
  have nl := eu.le
  obtain ⟨B, cb, rfl, hcb, _⟩ := s2.form
  obtain ⟨m, hm⟩ : ∃ m, m = s.d.length := ⟨_, rfl⟩
  rw [← hm] at hcb S2 nl ld ⊢
  have HM := lk hm
  clear eu s1 s2 pk ha' G hm
  by_cases m0 : m = 0
  ·have e : s.d = [] := List.length_eq_zero_iff.1 (by rw [← HM.out]; exact m0)
   subst m0
   have GD := lk (EU.out.ei.gd e)
   have NC := lk EU.out.ei.nc
   go_wp2
   go_ret
   exact ⟨_, s.c, a', c', rfl, S1.out, NC.out, by omega, GD.out, PK.out, by have := HA.out; omega, GG.out⟩
  ·have m1 : 0 < m := by omega
   have t0 := PK.out.e
   have A1 := lk (divmod_c hu p HF.out d g I wq a' c' _ _ s.c s.d PK.out.d (HD.out wq GG.out) (by have := HA.out; omega) S1.out S2.out (by omega) (by have := HM.out; omega))
   clear m0
   go_wp2_with fail
   refine (A1.out).mono ?_
   rintro e w1 ⟨q1, r1, err, a1, c1, rfl, dm, p1, ha1, g1⟩
   obtain ⟨rfl, zq, zr, ⟨-, nq⟩, ⟨or1, nr⟩, lr, -, er⟩ := dm.some P0.out EU.out.ei.nd (Eqv.refl _ _) (by rw [← HM.out]; exact m1)
   obtain ⟨s', es, e1, e2, -, -⟩ := Es.next P0.out s nq nr lr er
   obtain ⟨A0, k0, rfl, b01, b02⟩ := or1.fm
   have EU1 := lk (EU.out.step HPR.out (by rw [← HM.out]; exact m1) es)
   have S1' : Hid (Sl w1 (.slice B m cb) s'.c) := lk (by rw [e1]; exact PK.out.d.q.sl S2.out g1)
   have S2' : Hid (Sl w1 (.slice A0 zr.length k0) s'.d) := lk (by rw [e2]; exact or1.sl)
   have PK1 := lk (PK.out.next g1 p1)
   have HA1 := lk ha1
   have G1 := lk (jt GG.out g1)
   rw [← HM.out] at lr
   have LS : Hid (s'.c.length ≤ 100 ∧ s'.d.length ≤ 100) := lk (by rw [e1, e2]; have := HM.out; omega)
   obtain ⟨l, hl⟩ : ∃ l, l = zr.length := ⟨_, rfl⟩
   rw [← hl] at lr S2' ⊢
   clear A1 dm p1 ha1 g1 nq nr er or1 es e1 e2 hl t0 b01
   go_wp2
   go_roundw
   case rel => exact ⟨n + 1, s', _, _, a1, c1, ⟨rfl, rfl⟩, EU1.out, ⟨S1'.out, S2'.out, LS.out⟩, PK1.out, by have := HA.out; have := HA1.out; omega, G1.out⟩
   case measure => simp only [slenP]; omega
def GR (p : Int) (X : Nat → List Int) (n : Nat) (z : List Int) : Prop := ∃ g, Gch p X n g ∧ Mo p g z
theorem pgcd_c {u : Tb} (hu : TbOk u) (p : Nat) (hp : Pri p) (hF : ∀ x, 0 < x → x < (p : Int) → Int.gcd (p : Int) x = 1) (h d g : Nat) (I : Pix) (w : World) (a : Int) (c : Mc) (v : Value) (n : Nat) (V : Nat → Value) (X : Nat → List Int) (k : Pg w u p h d g I a c) (hd : Db w) (ha : a ≤ 100000000000000) (hv : Pts w v n V X) (hn : n ≤ 100) (hX : ∀ j, j < n → (X j).length ≤ 50) :
  Calls Tryz.prog 26 #[.pointer (some ⟨h, 0, none⟩), v] w fun e w' => ∃ x z a' c', e = .returned x ∧ Sl w' x z ∧ GR p X n z ∧ Pg w' u p h d g I a' c' ∧ a' ≤ a + (n : Int) * 500000000000 ∧ w.grownBy w' (some I.gm) := by
 have hp0 : (0 : Int) < p := by have := hp.1; omega
 obtain ⟨A, ca, rfl, hca, _, _⟩ := hv.c
 have PK := lk k
 have HD := lk (fun w1 (g : w.grownBy w1 (some I.gm)) => Db.gm k.d.q hd g)
 have HV := lk (fun w1 (g : w.grownBy w1 (some I.gm)) => k.d.q.ptsA hv g)
 have HF := lk hF
 have HPR := lk hp
 have P0 := lk hp0
 have HX := lk hX
 clear k hd hv hF hp hp0 hX
 go_enter Tryz.func26, Tryz.ntmps26
 go_wp2
 go_loopw [5, 10] (fun v5 v10 wr => ∃ (i : Nat) (g' : List Int) (xv : Value) (a' : Int) (c' : Mc), xv = v5 ∧ v10 = .int .i64 i ∧ i ≤ n ∧ (Sl wr xv g' ∧ g'.length ≤ 100 ∧ Gch p X i g') ∧ Pg wr u p h d g I a' c' ∧ a' ≤ a + (i : Int) * 500000000000 ∧ w.grownBy wr (some I.gm)) (fun _ v10 _ => n - (intOf v10).toNat)
 case atStart => exact ⟨0, [], _, a, c, rfl, rfl, by omega, ⟨sl_none _, by simp, rfl⟩, PK.out, by omega, jr _ _⟩
 case round =>
  clear PK
  obtain ⟨i, g', xv, a', c', rfl, rfl, hi, ⟨sx, lg, gc⟩, pk, ha', G⟩ := hrel
  obtain ⟨wq, rfl⟩ : ∃ wq : World, wq = wr := ⟨_, rfl⟩
  have SX := lk sx
  have GC := lk gc
  have PK := lk pk
  have HA := lk ha'
  have GG := lk G
  have t0 := pk.e
  have t1 := pk.d.e
  have t2 := pk.d.q.pe.e0
  clear sx gc pk ha' G
  by_cases hlt : i < n
  ·obtain ⟨bA, oA, rfl, c0⟩ := (HV.out wq GG.out).at i hlt
   have sv := (HV.out wq GG.out).s i hlt
   have NM := lk (pnorm_c wq I.r I.q p (V i) (X i) PK.out.d.q.rg sv (by have := HX.out i hlt; omega))
   obtain ⟨Vi, hVi⟩ : ∃ z, z = V i := ⟨_, rfl⟩
   rw [← hVi] at c0 NM
   have hx := HX.out i hlt
   clear sv hVi
   go_wp2_with fail
   refine (NM.out).mono ?_
   rintro e w1 ⟨x1, rfl, ⟨z1, o1, n1, e1, l1⟩, g1⟩
   have PK1 := lk (PK.out.grown0 g1)
   have G1 := lk (jt GG.out (jn g1 _))
   have T2 := lk (ptwo_c hu p HPR.out HF.out h d g I w1 a' c' x1 xv z1 g' PK1.out (HD.out w1 G1.out) (by have := HA.out; omega) o1.sl (SX.out.grown0 g1) n1 GC.out.nf (by omega) (by omega))
   have E1 := lk e1
   clear NM o1 n1 e1 l1 g1 t0 t1 t2 c0
   go_wp2_with fail
   refine (T2.out).mono ?_
   rintro e w2 ⟨x2, z2, a2, c2, rfl, s2, n2, l2, gd, pk2, ha2, g2⟩
   have G2 := lk (jt G1.out g2)
   have S2 := lk s2
   have PK2 := lk pk2
   have HA2 := lk ha2
   have GC2 : Hid (Gch p X (i + 1) z2) := lk ⟨n2, g', GC.out, gd.fn E1.out (Eqv.refl _ _) (isP_ev _) (isP_ev _)⟩
   clear T2 s2 n2 gd pk2 ha2 g2
   go_wp2
   go_roundw
   case rel => exact ⟨i + 1, z2, _, a2, c2, rfl, by go_num, by omega, ⟨S2.out, l2, GC2.out⟩, PK2.out, by have := HA.out; have := HA2.out; omega, G2.out⟩
   case measure => simp [intOf]; omega
  ·obtain rfl : i = n := by omega
   have MO := lk (pmonic_c wq I.r I.q p HF.out xv g' g' PK.out.d.q.rg SX.out (by omega) GC.out.nf (Eqv.refl _ _))
   go_wp2_with fail
   refine (MO.out).mono ?_
   rintro e w1 ⟨x1, y, rfl, oy, my, g1⟩
   go_wp2
   go_ret
   exact ⟨_, y, a', c', rfl, oy.sl, ⟨g', GC.out, my⟩, PK.out.grown0 g1, HA.out, jt GG.out (jn g1 _)⟩
theorem rMonic_c (w : World) (p : Int) (hp3 : 3 ≤ p) (hp' : p < 4611686018427387904) (hF : ∀ x, 0 < x → x < p → Int.gcd p x = 1) (v : Value) (xs zs : List Int) (hv : Sl w v xs) (hl : xs.length ≤ 1000000) (nz : Nf p zs) (ez : Eqv p (ev zs) (ev xs)) :
  Calls Tryz.prog 69 #[v, .int .u64 p] w fun e w' => ∃ x y, e = .returned x ∧ Own w' w.heap.size x y ∧ Mo p zs y ∧ w.grownBy w' none := by
 have hp : 0 < p := by omega
 have NM := lk (rNorm_c w v xs p hp hp' hv hl)
 have NZ := lk (And.intro nz ez)
 have HL := lk hl
 clear hv nz ez
 go_enter Tryz.func69, Tryz.ntmps69
 go_wp2_with fail
 refine (NM.out).mono ?_
 rintro e w1 ⟨x1, rfl, ⟨ys, oy, ny, ey, ly⟩, g1⟩
 obtain rfl := ny.one NZ.out.1 hp ey NZ.out.2
 have G1 := lk g1
 obtain ⟨A, ca, rfl, hca, _⟩ := oy.fm
 have SY := lk oy.sl
 have LY := lk ly
 obtain ⟨n, hn⟩ : ∃ n, n = ys.length := ⟨_, rfl⟩
 rw [← hn] at hca SY ⊢
 have HN := lk hn
 clear NM oy ny ey ly g1 hn
 by_cases n0 : n = 0
 ·subst n0
  have e : ys = [] := List.length_eq_zero_iff.1 HN.out.symm
  subst e
  go_wp2
  go_ret
  exact ⟨_, [], rfl, own_nil _ _, .inl ⟨rfl, rfl⟩, G1.out⟩
 ·have nb : ((n : Int) == 0) = false := by simp; omega
  obtain ⟨m, hm⟩ : ∃ m, n = m + 1 := ⟨n - 1, by omega⟩
  have em : (n : Int) - 1 = (m : Int) := by omega
  have hmn : m < n := by omega
  obtain ⟨b, o, rfl, hci⟩ := SY.out.at m (by rw [← HN.out]; exact hmn)
  have x0 := NZ.out.1.rd hp m
  have xt : rd ys m ≠ 0 := by
   have h1 := Nz.top NZ.out.1.z (by rw [← HN.out]; omega)
   rwa [show ys.length - 1 = m by rw [← HN.out]; omega] at h1
  have et : Hid (ys.length - 1 = m) := lk (by rw [← HN.out]; omega)
  obtain ⟨x, hx⟩ : ∃ x, x = rd ys m := ⟨_, rfl⟩
  rw [← hx] at hci x0 xt
  have HX := lk hx
  have IV := lk (refInv_c w1 p x hp3 (by omega) x0.1)
  have GC := lk (hF x (by omega) x0.2)
  clear hx hm
  go_wp2_with fail
  refine (IV.out).mono ?_
  rintro e w2 ⟨⟨c, f, rfl, io⟩, g2⟩
  obtain ⟨rfl, i0, i1, ic⟩ := io.is GC.out
  have IC := lk ic
  have G2 := lk (jt G1.out g2)
  have SC := lk (rScale_c w2 (.slice (some ⟨b, o, none⟩) n ca) ys c p hp hp' i0 (SY.out.grown0 g2) (by have := LY.out; omega))
  clear io ic IV g2 hci
  go_wp2_with fail
  refine (SC.out).mono ?_
  rintro e w3 ⟨x3, rfl, ⟨z3, o3, n3, e3, l3⟩, g3⟩
  go_wp2
  go_ret
  exact ⟨_, z3, rfl, o3.mono G2.out.size, .inr ⟨by rw [← HN.out]; omega, n3, c, by rw [et.out, ← HX.out]; exact IC.out, e3⟩, jt G2.out g3⟩
theorem rGcd_c (w : World) (p : Nat) (hp : Pri p) (hp3 : 3 ≤ (p : Int)) (hp' : (p : Int) < 4611686018427387904) (hF : ∀ x, 0 < x → x < (p : Int) → Int.gcd (p : Int) x = 1) (U V : Value) (xs ys : List Int) (hU : Sl w U xs) (hV : Sl w V ys) (hl : xs.length ≤ 100) (hl2 : ys.length ≤ 100) :
  Calls Tryz.prog 27 #[U, V, .int .u64 p] w fun e w' => ∃ x z m, e = .returned x ∧ Own w' w.heap.size x z ∧ (Nf p m ∧ m.length ≤ 100) ∧ Gd p (ev xs) (ev ys) m ∧ Mo p m z ∧ w.grownBy w' none := by
 have hp0 : (0 : Int) < p := by omega
 obtain ⟨P, hP⟩ : ∃ P : Int, P = (p : Int) := ⟨_, rfl⟩
 have HPP := lk hP
 have HPR := lk hp
 rw [← hP] at hp3 hp' hF hp0 ⊢
 have N1 := lk (rNorm_c w U xs P hp0 hp' hU (by omega))
 have N2 := lk (fun w1 (g : w.grownBy w1 none) => rNorm_c w1 V ys P hp0 hp' (hV.grown0 g) (by omega))
 have HF := lk hF
 clear hU hV hF hp hP
 go_enter Tryz.func27, Tryz.ntmps27
 go_wp2_with fail
 refine (N1.out).mono ?_
 rintro e w1 ⟨x1, rfl, ⟨za, oa, na, ea, la⟩, g1⟩
 go_wp2_with fail
 refine (N2.out w1 g1).mono ?_
 rintro e w2 ⟨x2, rfl, ⟨zb, ob, nb, eb, lb⟩, g2⟩
 have G2 := lk (jt g1 g2)
 have SA := lk (oa.sl.grown0 g2)
 have SB := lk ob.sl
 have E0 : Hid (Euc P 0 100 xs ys za zb 0 ⟨[1], [], [], [1], za, zb⟩) := lk (Euc.start (by omega) na ea nb eb (by omega) (by omega))
 have LZ : za.length ≤ 100 ∧ zb.length ≤ 100 := ⟨by omega, by omega⟩
 have LZ := lk LZ
 clear N1 N2 oa na ea la g1 ob nb eb lb g2
 go_wp2
 go_loopw [0, 1] (fun v0 v1 wr => ∃ (n : Nat) (s : Em) (y1 y2 : Value), (y1 = v0 ∧ y2 = v1) ∧ Euc P 0 100 xs ys za zb n s ∧ (Sl wr y1 s.c ∧ Sl wr y2 s.d ∧ s.c.length ≤ 100 ∧ s.d.length ≤ 100) ∧ w2.grownBy wr none) (fun _ v1 _ => slenP v1)
 case atStart => exact ⟨0, _, _, _, ⟨rfl, rfl⟩, E0.out, ⟨SA.out, SB.out, LZ.out⟩, jr _ _⟩
 case round =>
  clear E0 SA SB
  obtain ⟨n, s, y1, y2, ⟨rfl, rfl⟩, eu, ⟨s1, s2, lc, ld⟩, G⟩ := hrel
  obtain ⟨wq, rfl⟩ : ∃ wq : World, wq = wr := ⟨_, rfl⟩
  have EU := lk eu
  have S1 := lk s1
  have S2 := lk s2
  have GG := lk G
  obtain ⟨B, cb, rfl, hcb, _⟩ := s2.form
  obtain ⟨m, hm⟩ : ∃ m, m = s.d.length := ⟨_, rfl⟩
  rw [← hm] at hcb S2 ld ⊢
  have HM := lk hm
  clear eu s1 s2 G hm
  by_cases m0 : m = 0
  ·have e : s.d = [] := List.length_eq_zero_iff.1 (by rw [← HM.out]; exact m0)
   subst m0
   have GD := lk (EU.out.ei.gd e)
   have MO := lk (rMonic_c wq P hp3 hp' HF.out y1 s.c s.c S1.out (by omega) EU.out.ei.nc (Eqv.refl _ _))
   go_wp2_with fail
   refine (MO.out).mono ?_
   rintro e w3 ⟨x3, y, rfl, oy, my, g3⟩
   go_wp2
   go_ret
   exact ⟨_, y, s.c, rfl, oy.mono (Nat.le_trans G2.out.size GG.out.size), ⟨EU.out.ei.nc, lc⟩, GD.out, my, jt G2.out (jt GG.out g3)⟩
  ·have m1 : 0 < m := by omega
   have A1 := lk (rDivMod_c wq y1 (.slice B m cb) s.c s.d s.d P hp3 hp' HF.out S1.out S2.out (by omega) (by have := HM.out; omega) EU.out.ei.nd (Eqv.refl _ _) (by rw [← HM.out]; exact m1))
   clear m0
   go_wp2_with fail
   refine (A1.out).mono ?_
   rintro e w3 ⟨q1, r1, zq, zr, rfl, ⟨-, nq⟩, ⟨sr, nr⟩, lr, -, er, g3⟩
   obtain ⟨s', es, e1, e2, -, -⟩ := Es.next hp0 s nq nr lr er
   obtain ⟨A0, k0, rfl, b01, b02⟩ := sr.form
   have EU1 : Hid (Euc P 0 100 xs ys za zb (n + 1) s') := lk (by
    have h1 := EU.out
    rw [HPP.out] at h1 es ⊢
    exact h1.step HPR.out (by rw [← HM.out]; exact m1) es)
   have S1' : Hid (Sl w3 (.slice B m cb) s'.c) := lk (by rw [e1]; exact S2.out.grown0 g3)
   have S2' : Hid (Sl w3 (.slice A0 zr.length k0) s'.d) := lk (by rw [e2]; exact sr)
   have G1 := lk (jt GG.out g3)
   rw [← HM.out] at lr
   have LS : Hid (s'.c.length ≤ 100 ∧ s'.d.length ≤ 100) := lk (by rw [e1, e2]; have := HM.out; omega)
   obtain ⟨l, hl'⟩ : ∃ l, l = zr.length := ⟨_, rfl⟩
   rw [← hl'] at lr S2' ⊢
   clear A1 g3 nq nr er sr es e1 e2 hl' b01
   go_wp2
   go_roundw
   case rel => exact ⟨n + 1, s', _, _, ⟨rfl, rfl⟩, EU1.out, ⟨S1'.out, S2'.out, LS.out⟩, G1.out⟩
   case measure => simp only [slenP]; omega
theorem pm_7 : Pm ((7 : Nat) : Int) := ⟨by decide, by decide, by decide⟩
theorem isP_7 : isP 7 = true := by rw [isF_eq (by decide)]; decide +kernel
theorem nf7_22 : Nf 7 [2, 2] := ⟨fun c hc => by simp at hc; omega, by rfl⟩
theorem nf7_11 : Nf 7 [1, 1] := ⟨fun c hc => by simp at hc; omega, by rfl⟩
theorem gr_ex {X : Nat → List Int} (h0 : X 0 = [2, 2]) (h1 : X 1 = [6, 0, 1]) {z : List Int} (h : GR 7 X 2 z) : z = [1, 1] := by
 obtain ⟨g, gc, mo⟩ := h
 refine ch_one (p := 7) (pri12 7 (by decide)) gc (h := [1, 1]) ⟨[1, 1], [1, 1], ⟨[], [2, 2], rfl, nf7_22, ?_, ?_⟩, nf7_11, ?_, ?_⟩ mo
 ·rw [h0]
  exact ⟨⟨fun _ => 0, fun _ => 1, isP_const 0, isP_const 1, Eqv.of_eq _ fun x => by simp [ev]⟩, ⟨fun _ => 0, isP_const 0, Eqv.of_eq _ fun x => by simp [ev]⟩, Dv.refl _ _⟩
 ·exact .inr ⟨by decide, nf7_11, 4, by unfold Cg; decide, ⟨fun x => -(1 + x), (isP_const 1 |>.add isP_x).neg, fun x => by simp only [ev]; grind⟩⟩
 ·rw [h1]
  exact ⟨⟨fun _ => 1, fun _ => 0, isP_const 1, isP_const 0, Eqv.of_eq _ fun x => by simp [ev]⟩, Dv.refl _ _, ⟨fun x => x + 6, isP_x.add (isP_const 6), ⟨fun x => -x, isP_x.neg, fun x => by simp only [ev]; grind⟩⟩⟩
 ·exact .inr ⟨by decide, nf7_11, 1, by unfold Cg; decide, Eqv.of_eq _ fun x => by simp [ev]⟩
theorem wakes26_c (w : World) (hd : Db w) : Calls Tryz.prog 28 #[] w fun e w' => e = .returned (.bool true) ∧ w.grownBy w' none := by
 have NW : Calls Tryz.prog 65 #[.agg #[.int .i64 0, .int .i64 0, .int .i64 0, .int .i64 0, .int .i64 0, .int .i64 0, .int .i64 0, .int .i64 0, .int .i64 0, .int .i64 0, .int .i64 0], .int .u64 7] w fun e w' => ∃ h d g I, e = .returned (.tuple #[.pointer (some ⟨h, 0, none⟩), .int .i64 0]) ∧ Pg w' (Tb.clamp ⟨0, 0, 0, 0, 0, 0, 0, 0, 0, 0, 0⟩) ((7 : Nat) : Int) h d g I 0 ⟨0, tbT (Tb.clamp ⟨0, 0, 0, 0, 0, 0, 0, 0, 0, 0, 0⟩)⟩ ∧ w.heap.size ≤ I.gm ∧ w.grownBy w' none :=
  pgcdNew_ok w ⟨0, 0, 0, 0, 0, 0, 0, 0, 0, 0, 0⟩ 7 pm_7 isP_7 hd
 have TO := lk (Tb.clamp_ok ⟨0, 0, 0, 0, 0, 0, 0, 0, 0, 0, 0⟩)
 obtain ⟨u, hu⟩ : ∃ u, u = Tb.clamp ⟨0, 0, 0, 0, 0, 0, 0, 0, 0, 0, 0⟩ := ⟨_, rfl⟩
 rw [← hu] at NW TO
 have HN := lk NW
 have HD := lk hd
 clear NW hd hu
 go_enter Tryz.func28, Tryz.ntmps28
 go_wp2_with fail
 refine (HN.out).mono ?_
 rintro e w1 ⟨h, d, g, I, rfl, pq, hg, g1⟩
 have HG := lk hg
 have S1 := (sl_lit w1 24 #[.int .u64 2, .int .u64 2] [2, 2] 2 rfl (ws_append (ws_one (by decide) (by decide)) (ws_one (by decide) (by decide))) rfl (by decide)).grown0 (ju (jr _ none) (Obj.cells #[.int .u64 6, .int .u64 0, .int .u64 1] 24))
 have S2 := sl_lit (w1.alloc (Obj.cells #[.int .u64 2, .int .u64 2] 24)) 24 #[.int .u64 6, .int .u64 0, .int .u64 1] [6, 0, 1] 3 rfl (ws_append (ws_one (by decide) (by decide)) (ws_append (ws_one (by decide) (by decide)) (ws_one (by decide) (by decide)))) rfl (by decide)
 have PP := pts2 _ 25 _ _ [2, 2] [6, 0, 1] S1 S2
 have GA := ju (ju (ju (jr w1 none) (Obj.cells #[.int .u64 2, .int .u64 2] 24)) (Obj.cells #[.int .u64 6, .int .u64 0, .int .u64 1] 24)) (Obj.cells #[.slice (some ⟨w1.heap.size, 0, none⟩) 2 2, .slice (some ⟨(w1.alloc (Obj.cells #[.int .u64 2, .int .u64 2] 24)).heap.size, 0, none⟩) 3 3] 25)
 have ML := lk (pgcd_c TO.out 7 (pri12 7 (by decide)) (fld (p := 7) (by decide)) h d g I _ 0 _ _ 2 _ _ (pq.grown0 GA) (HD.out.grown0 (jt g1 GA)) (by decide) PP (by decide) (fun j hj => by
  rcases (show j = 0 ∨ j = 1 by omega) with rfl | rfl <;> decide))
 have HGA := lk (jt g1 GA)
 simp only [alloc_sz] at ML HGA
 clear S1 S2 PP GA pq g1 hg HN
 go_wp2_with fail
 refine (ML.out).mono ?_
 rintro e w2 ⟨x, z, a', c', rfl, sz, gr, _, _, g2⟩
 obtain rfl := gr_ex rfl rfl gr
 have G2 := lk (gb_new HGA.out g2 (fun i hi => by cases hi; exact HG.out))
 have GB := ju (jr w2 none) (Obj.cells #[.int .u64 1, .int .u64 1] 24)
 have SM := lk (same_c _ x _ [1, 1] [1, 1] (sz.grown0 GB) (sl_lit w2 24 #[.int .u64 1, .int .u64 1] [1, 1] 2 rfl (ws_append (ws_one (by decide) (by decide)) (ws_one (by decide) (by decide))) rfl (by decide)))
 rw [decide_eq_true rfl] at SM
 have HGB := lk (jt G2.out GB)
 clear GB sz gr g2 ML
 go_wp2_with fail
 refine (SM.out).mono ?_
 rintro e w3 ⟨rfl, g3⟩
 go_wp2
 go_ret
 exact ⟨rfl, jt HGB.out g3⟩
theorem PgcdGcds_walk (t : Tb) (k : Int) (va : Value) (al0 : List Int) (vb : Value) (bl0 : List Int) (vc : Value) (cl0 : List Int) (vl : Value) (r : Nat) (V0 : Nat → Value) (X0 : Nat → List Int) (w : World) (hk : 0 ≤ k ∧ k < 18446744073709551616) (ha : Sl w va al0) (hb : Sl w vb bl0) (hc : Sl w vc cl0) (hv : Pts w vl r V0 X0) (hd : Db w) :
  Calls Tryz.prog 4 #[t.v, .int .u64 k, va, vb, vc, vl] w fun e w' => e = .returned (.bool true) ∧ w.grownBy w' none := by
 have C0 := cs_new w #[.int .i64 t.eb, .int .i64 t.et, .int .i64 t.en, .int .i64 t.ed, .int .i64 t.er, .int .i64 t.el, .int .i64 t.ex, .int .i64 t.ep, .int .i64 t.ek, .int .i64 t.es, .int .i64 t.ee] 23
 have hg := ju (jr w none) (Obj.cells #[.int .i64 t.eb, .int .i64 t.et, .int .i64 t.en, .int .i64 t.ed, .int .i64 t.er, .int .i64 t.el, .int .i64 t.ex, .int .i64 t.ep, .int .i64 t.ek, .int .i64 t.es, .int .i64 t.ee] 23)
 have HG := lk hg
 have HC0 := lk C0
 clear C0 hg
 have CA := lk (cut_c _ va al0 16 (by decide) (ha.grown0 HG.out))
 have CB := lk (cut_c _ vb bl0 16 (by decide) (hb.grown0 HG.out))
 have CC := lk (cut_c _ vc cl0 8 (by decide) (hc.grown0 HG.out))
 have CL := lk (cuts_c _ 8 r 4 vl V0 X0 (hv.grown0 HG.out) (by decide) (by decide))
 have EG := lk (fun w1 h => engine26_c w1 t k hk h)
 have HD := lk hd
 clear ha hb hc hv hd
 go_enter Tryz.func4, Tryz.ntmps4
 go_wp2_with fail
 refine (CA.out).mono ?_
 rintro e w1 ⟨u, rfl, s1, hw⟩
 subst hw
 go_wp2_with fail
 refine (CB.out).mono ?_
 rintro e w1 ⟨v, rfl, s2, hw⟩
 subst hw
 go_wp2_with fail
 refine (CC.out).mono ?_
 rintro e w1 ⟨z, rfl, s4, hw⟩
 subst hw
 go_wp2_with fail
 refine (CL.out).mono ?_
 rintro e w1 ⟨y, rfl, s3, g1⟩
 have LA := cut_len al0 16
 have LB := cut_len bl0 16
 have LC := cut_len cl0 8
 obtain ⟨xs, hxs⟩ : ∃ xs, xs = al0.take 16 := ⟨_, rfl⟩
 obtain ⟨ys, hys⟩ : ∃ xs, xs = bl0.take 16 := ⟨_, rfl⟩
 obtain ⟨zs, hzs⟩ : ∃ xs, xs = cl0.take 8 := ⟨_, rfl⟩
 rw [← hxs] at s1 LA
 rw [← hys] at s2 LB
 rw [← hzs] at s4 LC
 obtain ⟨n, hn⟩ : ∃ n, n = min r 4 := ⟨_, rfl⟩
 have hn6 : n ≤ 4 := by omega
 rw [← hn] at s3
 obtain ⟨V, hV⟩ : ∃ V, V = fun j => cutV (V0 j) 8 := ⟨_, rfl⟩
 obtain ⟨X, hX⟩ : ∃ X, X = fun j => (X0 j).take 8 := ⟨_, rfl⟩
 rw [← hV, ← hX] at s3
 have LX : Hid (∀ j, (X j).length ≤ 8) := lk (fun j => by rw [hX]; exact cut_len _ _)
 have G1 := lk (jt HG.out g1)
 have S1 := lk (s1.grown0 g1)
 have S2 := lk (s2.grown0 g1)
 have S4 := lk (s4.grown0 g1)
 have S3 := lk s3
 have HC1 := lk (HC0.out.grown0 g1)
 have E1 := lk (EG.out _ (HD.out.grown0 G1.out))
 clear s1 s2 s3 s4 CA CB CC CL hxs hys hzs hn hV hX g1 HC0
 have c0 := HC1.out.cell 0 rfl
 have c1 := HC1.out.cell 1 rfl
 have c2 := HC1.out.cell 2 rfl
 have c3 := HC1.out.cell 3 rfl
 have c4 := HC1.out.cell 4 rfl
 have c5 := HC1.out.cell 5 rfl
 have c6 := HC1.out.cell 6 rfl
 have c7 := HC1.out.cell 7 rfl
 have c8 := HC1.out.cell 8 rfl
 have c9 := HC1.out.cell 9 rfl
 have c10 := HC1.out.cell 10 rfl
 go_wp2_with fail
 refine (E1.out).mono ?_
 rintro e w2 ⟨p, h, d, g, I, rfl, pm, hpk, pq, hg, g2⟩
 clear c0 c1 c2 c3 c4 c5 c6 c7 c8 c9 c10
 have G2 := lk (jt G1.out g2)
 have PQ := lk pq
 have HI := lk (Nat.le_trans G1.out.size hg)
 have HPR := lk (pri12 p hpk.1)
 have HFL := lk (fld hpk.1)
 have T1 := lk (S1.out.grown0 g2)
 have T2 := lk (S2.out.grown0 g2)
 have T3 := lk (S3.out.grown0 g2)
 have T4 := lk (S4.out.grown0 g2)
 have PB : Hid (3 ≤ (p : Int) ∧ (p : Int) < 4611686018427387904) := lk ⟨pm.lo, pm.hi⟩
 have PD := lk (fun w3 (k : w2.grownBy w3 none) n v V X (hv : Pts w3 v n V X) (hn : n ≤ 100) (hX : ∀ j, j < n → (X j).length ≤ 50) => pgcd_c t.clamp_ok p HPR.out HFL.out h d g I w3 0 _ v n V X (PQ.out.grown0 k) (HD.out.grown0 (jt G2.out k)) (by decide) hv hn hX)
 have RG := lk (fun w3 U V xs ys hU hV h1 h2 => rGcd_c w3 p HPR.out PB.out.1 PB.out.2 HFL.out U V xs ys hU hV h1 h2)
 have R1 := lk (rMul_c w2 u z xs zs p PB.out.1 PB.out.2 T1.out T4.out (by omega))
 have R2 := lk (fun w3 (k : w2.grownBy w3 none) => rMul_c w3 v z ys zs p PB.out.1 PB.out.2 (T2.out.grown0 k) (T4.out.grown0 k) (by omega))
 obtain ⟨P, hP⟩ : ∃ P : Int, P = (p : Int) := ⟨_, rfl⟩
 have HPP := lk hP
 rw [← hP] at RG R1 R2 ⊢
 have WK := lk (fun w11 (k : w.grownBy w11 none) => wakes26_c w11 (HD.out.grown0 k))
 clear pm pq hg g2 E1 EG HC1 S1 S2 S3 S4 hpk hP
 go_wp2_with fail
 refine (R1.out).mono ?_
 rintro e w3 ⟨x3, rfl, ⟨z3, o3, n3, e3, l3⟩, g3⟩
 go_wp2_with fail
 refine (R2.out w3 g3).mono ?_
 rintro e w4 ⟨x4, rfl, ⟨z4, o4, n4, e4, l4⟩, g4⟩
 obtain ⟨A3, c3, rfl, b31, b32⟩ := o3.fm
 obtain ⟨A4, c4, rfl, b41, b42⟩ := o4.fm
 have G4 := lk (jt g3 g4)
 have Q3 := lk (o3.sl.grown0 g4)
 have Q4 := lk o4.sl
 have N34 := lk (And.intro n3 n4)
 have L34 : Hid (z3.length ≤ 24 ∧ z4.length ≤ 24) := lk ⟨by omega, by omega⟩
 obtain ⟨m3, h3⟩ : ∃ m, m = z3.length := ⟨_, rfl⟩
 obtain ⟨m4, h4⟩ : ∃ m, m = z4.length := ⟨_, rfl⟩
 rw [← h3] at Q3 b31 ⊢
 rw [← h4] at Q4 b41 ⊢
 have GA := ju (jr w4 none) (Obj.cells #[.slice A3 m3 c3, .slice A4 m4 c4] 25)
 have HGA := lk GA
 have PP := pts2 w4 25 _ _ z3 z4 Q3.out Q4.out
 have M1 := lk (PD.out _ (jt G4.out GA) 2 _ _ _ PP (by decide) (fun j hj => by
  rcases (show j = 0 ∨ j = 1 by omega) with rfl | rfl
  ·show z3.length ≤ 50
   have := L34.out; omega
  ·show z4.length ≤ 50
   have := L34.out; omega))
 clear R1 R2 o3 n3 e3 l3 g3 o4 n4 e4 l4 g4 GA PP h3 h4
 go_wp2_with fail
 refine (M1.out).mono ?_
 rintro e w5 ⟨x5, y5, a5, k5, rfl, s5, gr5, pq5, ha5, g5⟩
 have G5 := lk (gb_new (jt G2.out (jt G4.out HGA.out)) g5 (fun i hi => by cases hi; exact HI.out))
 have PW := lk (PQ.out.grown0 (jt G4.out HGA.out))
 have Q3' := lk (PW.out.d.q.sl (Q3.out.grown0 HGA.out) g5)
 have Q4' := lk (PW.out.d.q.sl (Q4.out.grown0 HGA.out) g5)
 have T35 := lk (PW.out.d.q.ptsA (T3.out.grown0 (jt G4.out HGA.out)) g5)
 have P5 := lk pq5
 have A5 := lk ha5
 have S5 := lk s5
 have GR5 := lk gr5
 have M2 := lk (RG.out w5 _ _ z3 z4 Q3'.out Q4'.out (by have := L34.out; omega) (by have := L34.out; omega))
 clear M1 s5 gr5 pq5 ha5 g5 PW
 go_wp2_with fail
 refine (M2.out).mono ?_
 rintro e w6 ⟨x6, y6, m6, rfl, o6, ⟨n6, l6⟩, d6, mo6, g6⟩
 have E6 : y5 = y6 := by
  obtain ⟨gg, gch, mg⟩ := GR5.out
  obtain ⟨ng, f, ⟨nf, f0, hf0, df⟩, dg⟩ := gch
  have hf : f0 = [] := hf0
  subst hf
  have n1 := N34.out.1
  have a1 : Asc p f z3 := by
   refine ⟨?_, df.f⟩
   obtain ⟨u', v', iu, iv, e'⟩ := df.c
   exact ⟨u', iu, e'.fn fun x => by simp [ev]⟩
  rw [HPP.out] at n6 d6 mo6
  exact mg.asc HPR.out ng n6 (dg.asc d6.symm a1) mo6
 subst E6
 have G6 := lk (jt G5.out g6)
 have SM := lk (same_c w6 x5 x6 y5 y5 (S5.out.grown0 g6) o6.sl)
 rw [decide_eq_true rfl] at SM
 have P6 := lk (P5.out.grown0 g6)
 have T36 := lk (T35.out.grown0 g6)
 clear M2 o6 n6 l6 d6 mo6 g6
 go_wp2_with fail
 refine (SM.out).mono ?_
 rintro e w7 ⟨rfl, g7⟩
 have G7 := lk (jt G6.out g7)
 have P7 := lk (P6.out.grown0 g7)
 have T37 := lk (T36.out.grown0 g7)
 obtain ⟨B, cB, rfl, hB, _, _⟩ := T37.out.c
 clear SM g7 P6 T36 P5 T35 S5 GR5
 go_wp2
 go_loopw [15, 16] (fun v15 v16 wr => ∃ (i : Nat) (xv : Value) (hh : List Int), xv = v15 ∧ v16 = .int .i64 i ∧ i ≤ n ∧ (Sl wr xv hh ∧ hh.length ≤ 100 ∧ Hch p X i hh) ∧ w7.grownBy wr none) (fun _ v16 _ => n - (intOf v16).toNat)
 case atStart => exact ⟨0, _, [], rfl, rfl, by omega, ⟨sl_none _, by simp, rfl⟩, jr _ _⟩
 case round =>
  obtain ⟨i, xv, hh, rfl, rfl, hi, ⟨sh, lh, hc⟩, G⟩ := hrel
  obtain ⟨wq, rfl⟩ : ∃ wq : World, wq = wr := ⟨_, rfl⟩
  have SH := lk sh
  have HH := lk hc
  have GG := lk G
  clear sh hc G
  by_cases hin : i < n
  ·obtain ⟨bA, oA, rfl, c0⟩ := (T37.out.grown0 GG.out).at i hin
   have sv := (T37.out.grown0 GG.out).s i hin
   have M := lk (RG.out wq xv (V i) hh (X i) SH.out sv lh (by have := LX.out i; omega))
   obtain ⟨Vi, hVi⟩ : ∃ z, z = V i := ⟨_, rfl⟩
   rw [← hVi] at c0 M
   clear hVi sv
   go_wp2_with fail
   refine (M.out).mono ?_
   rintro e w8 ⟨x8, y8, m8, rfl, o8, ⟨n8, l8⟩, d8, mo8, g8⟩
   rw [HPP.out] at n8 d8 mo8
   have H8 : Hid (Hch p X (i + 1) y8) := lk ⟨hh, m8, HH.out, n8, d8, mo8⟩
   have L8 : Hid (y8.length ≤ 100) := lk (by
    rw [mo8.len HPR.out n8]; exact l8)
   have S8 := lk o8.sl
   have G8 := lk (jt GG.out g8)
   clear M o8 n8 d8 mo8 g8 c0
   go_wp2
   go_roundw
   case rel => exact ⟨i + 1, _, y8, rfl, by go_num, by omega, ⟨S8.out, L8.out, H8.out⟩, G8.out⟩
   case measure => simp [intOf]; omega
  ·obtain rfl : i = n := by omega
   have TT := T37.out.grown0 GG.out
   have M := lk (pgcd_c t.clamp_ok p HPR.out HFL.out h d g I wq a5 k5 _ i V X (P7.out.grown0 GG.out) (HD.out.grown0 (jt G7.out GG.out)) (by have := A5.out; omega) TT (by omega) (fun j _ => by have := LX.out j; omega))
   have GW := lk (jt G7.out GG.out)
   have SH' := lk (fun w9 (k : wq.grownBy w9 (some I.gm)) => (P7.out.grown0 GG.out).d.q.sl SH.out k)
   clear TT
   go_wp2_with fail
   refine (M.out).mono ?_
   rintro e w9 ⟨x9, y9, a9, k9, rfl, s9, ⟨gg, gch, mg⟩, _, _, g9⟩
   obtain rfl := ch_one HPR.out gch HH.out mg
   have G9 := lk (gb_new GW.out g9 (fun i hi => by cases hi; exact HI.out))
   have SM := lk (same_c w9 x9 xv y9 y9 s9 (SH'.out w9 g9))
   rw [decide_eq_true rfl] at SM
   clear M s9 gch mg g9
   go_wp2_with fail
   refine (SM.out).mono ?_
   rintro e wa ⟨rfl, ga⟩
   have Ga := lk (jt G9.out ga)
   clear SM ga
   go_wp2_with fail
   refine (WK.out _ Ga.out).mono ?_
   rintro e wb ⟨rfl, gb⟩
   go_wp2
   go_ret
   exact ⟨rfl, jt Ga.out gb⟩
end Go.Proofs.YtgalbnkcijmnnaaGreatDoor
