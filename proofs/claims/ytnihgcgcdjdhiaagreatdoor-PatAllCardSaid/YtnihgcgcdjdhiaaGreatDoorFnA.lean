/- The functions of this seat as data: bodies. No statement of its own about the program. -/
import Derived.Test.YtnihgcgcdjdhiaaGreatDoorEvI
abbrev Prod.d2 {T0 T1 T2 T3 : Type} (x : T0 × T1 × T2 × T3) : T2 := x.2.2.1
abbrev Prod.d3 {T0 T1 T2 T3 T4 : Type} (x : T0 × T1 × T2 × T3 × T4) : T3 := x.2.2.2.1
abbrev Prod.d4 {T0 T1 T2 T3 T4 T5 : Type} (x : T0 × T1 × T2 × T3 × T4 × T5) : T4 := x.2.2.2.2.1
abbrev Prod.d5 {T0 T1 T2 T3 T4 T5 T6 : Type} (x : T0 × T1 × T2 × T3 × T4 × T5 × T6) : T5 := x.2.2.2.2.2.1
abbrev Prod.d6 {T0 T1 T2 T3 T4 T5 T6 T7 : Type} (x : T0 × T1 × T2 × T3 × T4 × T5 × T6 × T7) : T6 := x.2.2.2.2.2.2.1
abbrev Prod.d7 {T0 T1 T2 T3 T4 T5 T6 T7 T8 : Type} (x : T0 × T1 × T2 × T3 × T4 × T5 × T6 × T7 × T8) : T7 := x.2.2.2.2.2.2.2.1
abbrev Prod.d8 {T0 T1 T2 T3 T4 T5 T6 T7 T8 T9 : Type} (x : T0 × T1 × T2 × T3 × T4 × T5 × T6 × T7 × T8 × T9) : T8 := x.2.2.2.2.2.2.2.2.1
abbrev Prod.d9 {T0 T1 T2 T3 T4 T5 T6 T7 T8 T9 T10 : Type} (x : T0 × T1 × T2 × T3 × T4 × T5 × T6 × T7 × T8 × T9 × T10) : T9 := x.2.2.2.2.2.2.2.2.2.1
abbrev Prod.d10 {T0 T1 T2 T3 T4 T5 T6 T7 T8 T9 T10 T11 : Type} (x : T0 × T1 × T2 × T3 × T4 × T5 × T6 × T7 × T8 × T9 × T10 × T11) : T10 := x.2.2.2.2.2.2.2.2.2.2.1
abbrev Prod.d11 {T0 T1 T2 T3 T4 T5 T6 T7 T8 T9 T10 T11 T12 : Type} (x : T0 × T1 × T2 × T3 × T4 × T5 × T6 × T7 × T8 × T9 × T10 × T11 × T12) : T11 := x.2.2.2.2.2.2.2.2.2.2.2.1
abbrev Prod.d12 {T0 T1 T2 T3 T4 T5 T6 T7 T8 T9 T10 T11 T12 T13 : Type} (x : T0 × T1 × T2 × T3 × T4 × T5 × T6 × T7 × T8 × T9 × T10 × T11 × T12 × T13) : T12 := x.2.2.2.2.2.2.2.2.2.2.2.2.1
abbrev Prod.d13 {T0 T1 T2 T3 T4 T5 T6 T7 T8 T9 T10 T11 T12 T13 T14 : Type} (x : T0 × T1 × T2 × T3 × T4 × T5 × T6 × T7 × T8 × T9 × T10 × T11 × T12 × T13 × T14) : T13 := x.2.2.2.2.2.2.2.2.2.2.2.2.2.1
namespace Ev
open Go
namespace Fn
abbrev Y3 : Type := List Int
abbrev Y0 : Type := Int × Y3 × Int × Int
abbrev Y5 : Type := Y3 × Sl (Sl Y0)
abbrev Y1 : Type := Y3 × Int × Sl Y5
abbrev Y2 : Type := Sl (Sl Y0)
abbrev Y4 : Type := Bool × Unit
abbrev Y6 : Type := Int × Unit
abbrev Y28 : Type := Int × Sl Y0
abbrev Y11 : Type := Sl Y28
abbrev Y22 : Type := Y2 × Bool × Unit
abbrev Y17 : Type := Y3 × Sl Y0
abbrev Y8 : Type := Sl Y17
abbrev Y9 : Type := (Sl Y0) × Unit
abbrev Y10 : Type := (Sl Y1) × (Sl Y0) × (Sl Y0) × Unit
abbrev Y12 : Type := (Sl Y0) × Int × Unit
abbrev Y13 : Type := Bool × (Sl Y1) × Unit
abbrev Y14 : Type := (Sl Y3) × Unit
abbrev Y40 : Type := (Sl Y1) × (Sl Y3) × Int × Unit
abbrev Y38 : Type := (Sl Y1) × Int × Unit
abbrev Y15 : Type := Y40 ⊕ (Y40 ⊕ (Y38 ⊕ Y6))
abbrev Y16 : Type := Y2 × (Sl Y2) × Y2 × (Sl Y1) × Unit
abbrev Y18 : Type := Bool × Y3 × Int × (Sl Y5) × Unit
abbrev Y19 : Type := Int × Y3 × Int × (Sl Y5) × Unit
abbrev Y20 : Type := (Sl Y2) × Unit
abbrev Y21 : Type := Y2 × Unit
abbrev Y23 : Type := (Sl Int) × Unit
abbrev Y24 : Type := (Sl Y1) × (Sl Y0) × Y3 × Unit
abbrev Y25 : Type := Bool × (Sl Y0) × Y2 × (Sl Y2) × Y2 × (Sl Y1) × Unit
abbrev Y26 : Type := Y8 × Bool × Unit
abbrev Y29 : Type := (Sl Y0) × (Sl Y0) × Unit
abbrev Y30 : Type := Bool × (Sl Y2) × Unit
abbrev Y31 : Type := Y2 × Bool × (Sl Y1) × Unit
abbrev Y32 : Type := (Sl Y1) × (Sl Y0) × Y2 × Unit
abbrev Y34 : Type := (Sl Y1) × Int × Int × Unit
abbrev Y35 : Type := (Sl Y0) × (Sl Y0) × Y8 × Unit
abbrev Y36 : Type := Bool × Y8 × Unit
abbrev Y37 : Type := (Sl Y0) × Int × Bool × Unit
abbrev Y39 : Type := Int × (Sl Y0) × Y2 × (Sl Y2) × Y2 × (Sl Y1) × Unit
abbrev Y41 : Type := (Sl Y0) × Int × Bool × (Sl Y0) × Unit
abbrev Y43 : Type := (Sl Y1) × Int × Int × (Sl Y1) × Unit
abbrev Y44 : Type := Y3 × Unit
abbrev Y45 : Type := Int × Int × Unit
abbrev Y46 : Type := (Sl Y1) × Unit
abbrev Y47 : Type := (Sl Y1) × Int × Int × Int × Unit
abbrev Y48 : Type := (Y3 × Int × Int × Int × Int × Unit) ⊕ Y14
abbrev Y51 : Type := Y2 × (Sl Y2) × (Sl Y1) × Unit
abbrev Y52 : Type := Bool × Int × Int × Unit
abbrev Y53 : Type := Y0 × Unit
abbrev Y54 : Type := (Sl Int) × Int × Unit
abbrev Y55 : Type := Int × (Sl Y1) × Unit
abbrev Y56 : Type := Int × (Sl Y2) × Unit
abbrev Y57 : Type := Y3 × Int × Int × (Sl Y3) × Unit
abbrev Y58 : Type := Int × (Sl Y0) × Int × Int × (Sl Int) × Unit
abbrev Yf0 : Type := Y10 → Option Y4
abbrev Yf1 : Type := Y9 → Option Y4
abbrev Yf2 : Type := Y12 → Option Y6
abbrev Yf3 : Type := Y44 → Option Y4
abbrev Yf4 : Type := Y53 → Option Y4
abbrev Yf5 : Type := Y6 → Option Y4
abbrev Yf6 : Type := Y16 → Option Y13
abbrev Yf7 : Type := Y6 → Option Y6
abbrev Yf8 : Type := Y9 → Option Y6
abbrev Yf9 : Type := Y24 → Option Y22
abbrev Yf10 : Type := Y12 → Option Y23
abbrev Yf11 : Type := Y37 → Option Y6
abbrev Yf12 : Type := Y35 → Option Y36
abbrev Yf13 : Type := Y29 → Option Y26
abbrev Yf14 : Type := Y46 → Option Y6
abbrev Yf15 : Type := Y9 → Option Y9
abbrev Yf17 : Type := Y41 → Option Y45
abbrev Yf18 : Type := Y9 → Option Y21
abbrev Yf19 : Type := Y51 → Option Y31
abbrev Yf23 : Type := Y10 → Option Y6
abbrev Yf24 : Type := Y21 → Option Y4
abbrev Yf25 : Type := Y20 → Option Y21
abbrev Yf26 : Type := Unit → Option Y4
def b_e4 (L : Lf) (x : Y6) : Option Y6 :=
 L.bnd (L.shlI .u64 (L.cvI .u64 x.1) 1) (fun b => L.bnd (L.shrI .i64 (L.cvI .i64 b) 1) (fun d => some (d, ())))
noncomputable def f_e4 := b_e4 lf
def b_as (L : Lf) (x : Y6) : Option Y4 :=
 L.bnd (L.cnd (L.leI 97 x.1) (some (L.leI x.1 122)) (some false)) (fun b => some (b, ()))
noncomputable def f_as := b_as lf
def b_ap (L : Lf) (x : Y6) : Option Y4 :=
 L.bnd (L.cnd (L.leI 65 x.1) (some (L.leI x.1 90)) (some false)) (fun b => some (b, ()))
noncomputable def f_ap := b_ap lf
def b_ao (L : Lf) (x : Y6) : Option Y4 :=
 L.bnd (L.cnd (L.leI 48 x.1) (some (L.leI x.1 57)) (some false)) (fun b => some (b, ()))
noncomputable def f_ao := b_ao lf
def b_aq (L : Lf) (c0 : Yf5) (c1 : Yf5) (c2 : Yf5) (x : Y6) : Option Y4 :=
 L.bnd (c0 (x.1, ())) (fun b => L.bnd (L.cnd b.1 (some true) (L.bnd (c1 (x.1, ())) (fun d => some d.1))) (fun e => L.bnd (L.cnd e (some true) (L.bnd (c2 (x.1, ())) (fun g => some g.1))) (fun h => L.bnd (L.cnd h (some true) (some (L.eqI x.1 95))) (fun i => L.bnd (L.cnd i (some true) (some (L.eqI x.1 39))) (fun j => some (j, ()))))))
noncomputable def f_aq := b_aq lf f_as f_ap f_ao
def b_am (L : Lf) (c0 : Yf5) (x : Y44) : Option Y4 :=
 L.loopR (fun (b : Y3 × Y3 × Int × Unit) => L.cnd (L.ltI b.d2 (L.lenI b.2.1)) (L.bnd (L.cnd (L.ltI b.d2 (L.lenI b.2.1)) (some (L.runeI b.2.1 b.d2)) none) (fun d => L.bnd (L.cnd (L.ltI 126 d) (some true) (L.bnd (c0 (L.cvI .u8 d, ())) (fun e => some (L.notB e.1)))) (fun g => L.cnd g (some (Sum.inr (false, ()))) (some (Sum.inl (b.1, b.2.1, L.nextI b.2.1 b.d2, ())))))) (some (Sum.inr (L.notB (L.eqS b.1 ([] : Y3)), ())))) (x.1, x.1, 0, ())
noncomputable def f_am := b_am lf f_aq
def b_d8 (L : Lf) (x : (Sl Y3) × Y3 × Unit) : Option Y6 :=
 L.loopR (fun (b : (Sl Y3) × Y3 × Int × Int × Unit) => L.cnd (L.ltI b.d3 b.d2) (L.bnd (L.at? b.1.l b.d3) (fun d => L.cnd (L.eqS b.2.1 d) (some (Sum.inr (b.d3, ()))) (some (Sum.inl (b.1, b.2.1, b.d2, L.addI .i64 b.d3 1, ()))))) (some (Sum.inr ((-1), ())))) (x.1, x.2.1, L.lenI x.1.l, 0, ())
noncomputable def f_d8 := b_d8 lf
def b_cn (L : Lf) (c0 : ((Sl Y3) × Y3 × Unit) → Option Y6) (x : (Sl Y3) × Y3 × Unit) : Option Y4 :=
 L.bnd (c0 (x.1, x.2.1, ())) (fun b => some (L.leI 0 b.1, ()))
noncomputable def f_cn := b_cn lf f_d8
def b_da (L : Lf) (x : Y44) : Option Y14 :=
 L.loopR (fun (b : Y3 × Int × Int × Int × Int × Unit) => L.cnd (L.ltI b.d4 (L.lenI b.1)) (L.bnd (L.at? b.1 b.d4) (fun d => L.bnd (L.at? ([0, 0, 0, 0, 0, 0, 0, 0, 0, 1, 1, 1, 1, 1, 0, 0, 0, 0, 0, 0, 0, 0, 0, 0, 0, 0, 0, 0, 0, 0, 0, 0, 1, 0, 0, 0, 0, 0, 0, 0, 0, 0, 0, 0, 0, 0, 0, 0, 0, 0, 0, 0, 0, 0, 0, 0, 0, 0, 0, 0, 0, 0, 0, 0, 0, 0, 0, 0, 0, 0, 0, 0, 0, 0, 0, 0, 0, 0, 0, 0, 0, 0, 0, 0, 0, 0, 0, 0, 0, 0, 0, 0, 0, 0, 0, 0, 0, 0, 0, 0, 0, 0, 0, 0, 0, 0, 0, 0, 0, 0, 0, 0, 0, 0, 0, 0, 0, 0, 0, 0, 0, 0, 0, 0, 0, 0, 0, 0, 0, 0, 0, 0, 0, 0, 0, 0, 0, 0, 0, 0, 0, 0, 0, 0, 0, 0, 0, 0, 0, 0, 0, 0, 0, 0, 0, 0, 0, 0, 0, 0, 0, 0, 0, 0, 0, 0, 0, 0, 0, 0, 0, 0, 0, 0, 0, 0, 0, 0, 0, 0, 0, 0, 0, 0, 0, 0, 0, 0, 0, 0, 0, 0, 0, 0, 0, 0, 0, 0, 0, 0, 0, 0, 0, 0, 0, 0, 0, 0, 0, 0, 0, 0, 0, 0, 0, 0, 0, 0, 0, 0, 0, 0, 0, 0, 0, 0, 0, 0, 0, 0, 0, 0, 0, 0, 0, 0, 0, 0, 0, 0, 0, 0, 0, 0, 0, 0, 0, 0, 0, 0, 0, 0, 0, 0, 0, 0] : Y3) d) (fun e => some (Sum.inl (b.1, L.addI .i64 b.2.1 (L.andI .i64 b.d2 (L.xorI .i64 (-1) (L.cvI .i64 e))), L.cvI .i64 e, L.orI .u8 b.d3 d, L.addI .i64 b.d4 1, ()))))) (L.cnd (L.leI 128 b.d3) none (L.bnd (L.mkN b.2.1 b.2.1) (fun g => L.loopR (fun (h : Y57) => L.bnd (L.cnd (L.ltI h.d2 (L.lenI h.1)) (L.bnd (L.at? h.1 h.d2) (fun i => L.bnd (L.at? ([0, 0, 0, 0, 0, 0, 0, 0, 0, 1, 1, 1, 1, 1, 0, 0, 0, 0, 0, 0, 0, 0, 0, 0, 0, 0, 0, 0, 0, 0, 0, 0, 1, 0, 0, 0, 0, 0, 0, 0, 0, 0, 0, 0, 0, 0, 0, 0, 0, 0, 0, 0, 0, 0, 0, 0, 0, 0, 0, 0, 0, 0, 0, 0, 0, 0, 0, 0, 0, 0, 0, 0, 0, 0, 0, 0, 0, 0, 0, 0, 0, 0, 0, 0, 0, 0, 0, 0, 0, 0, 0, 0, 0, 0, 0, 0, 0, 0, 0, 0, 0, 0, 0, 0, 0, 0, 0, 0, 0, 0, 0, 0, 0, 0, 0, 0, 0, 0, 0, 0, 0, 0, 0, 0, 0, 0, 0, 0, 0, 0, 0, 0, 0, 0, 0, 0, 0, 0, 0, 0, 0, 0, 0, 0, 0, 0, 0, 0, 0, 0, 0, 0, 0, 0, 0, 0, 0, 0, 0, 0, 0, 0, 0, 0, 0, 0, 0, 0, 0, 0, 0, 0, 0, 0, 0, 0, 0, 0, 0, 0, 0, 0, 0, 0, 0, 0, 0, 0, 0, 0, 0, 0, 0, 0, 0, 0, 0, 0, 0, 0, 0, 0, 0, 0, 0, 0, 0, 0, 0, 0, 0, 0, 0, 0, 0, 0, 0, 0, 0, 0, 0, 0, 0, 0, 0, 0, 0, 0, 0, 0, 0, 0, 0, 0, 0, 0, 0, 0, 0, 0, 0, 0, 0, 0, 0, 0, 0, 0, 0, 0, 0, 0, 0, 0, 0, 0] : Y3) i) (fun j => some (L.notB (L.eqI j 0))))) (some false)) (fun k => L.cnd k (some (Sum.inl (h.1, h.2.1, L.addI .i64 h.d2 1, h.d3, ()))) (L.loopR (fun (m : Y3 × Int × Int × Int × (Sl Y3) × Unit) => L.cnd (L.ltI m.d3 (L.lenI m.1)) (L.bnd (L.bnd (L.at? m.1 m.d3) (fun n => L.bnd (L.at? ([0, 0, 0, 0, 0, 0, 0, 0, 0, 1, 1, 1, 1, 1, 0, 0, 0, 0, 0, 0, 0, 0, 0, 0, 0, 0, 0, 0, 0, 0, 0, 0, 1, 0, 0, 0, 0, 0, 0, 0, 0, 0, 0, 0, 0, 0, 0, 0, 0, 0, 0, 0, 0, 0, 0, 0, 0, 0, 0, 0, 0, 0, 0, 0, 0, 0, 0, 0, 0, 0, 0, 0, 0, 0, 0, 0, 0, 0, 0, 0, 0, 0, 0, 0, 0, 0, 0, 0, 0, 0, 0, 0, 0, 0, 0, 0, 0, 0, 0, 0, 0, 0, 0, 0, 0, 0, 0, 0, 0, 0, 0, 0, 0, 0, 0, 0, 0, 0, 0, 0, 0, 0, 0, 0, 0, 0, 0, 0, 0, 0, 0, 0, 0, 0, 0, 0, 0, 0, 0, 0, 0, 0, 0, 0, 0, 0, 0, 0, 0, 0, 0, 0, 0, 0, 0, 0, 0, 0, 0, 0, 0, 0, 0, 0, 0, 0, 0, 0, 0, 0, 0, 0, 0, 0, 0, 0, 0, 0, 0, 0, 0, 0, 0, 0, 0, 0, 0, 0, 0, 0, 0, 0, 0, 0, 0, 0, 0, 0, 0, 0, 0, 0, 0, 0, 0, 0, 0, 0, 0, 0, 0, 0, 0, 0, 0, 0, 0, 0, 0, 0, 0, 0, 0, 0, 0, 0, 0, 0, 0, 0, 0, 0, 0, 0, 0, 0, 0, 0, 0, 0, 0, 0, 0, 0, 0, 0, 0, 0, 0, 0, 0, 0, 0, 0, 0, 0] : Y3) n) (fun o => L.cnd (L.eqI o 0) (some (Sum.inl (m.1, m.2.1, m.d2, L.addI .i64 m.d3 1, m.d4, ()))) (L.bnd (L.cutL m.1 m.d2 m.d3) (fun p => L.bnd (L.okAt m.d4.l m.2.1) (fun q => L.bnd (L.bnd (L.nth m.d4.l q) (fun _ => some p)) (fun r => L.loopR (fun (s : Y57) => L.bnd (L.cnd (L.ltI s.d2 (L.lenI s.1)) (L.bnd (L.at? s.1 s.d2) (fun t => L.bnd (L.at? ([0, 0, 0, 0, 0, 0, 0, 0, 0, 1, 1, 1, 1, 1, 0, 0, 0, 0, 0, 0, 0, 0, 0, 0, 0, 0, 0, 0, 0, 0, 0, 0, 1, 0, 0, 0, 0, 0, 0, 0, 0, 0, 0, 0, 0, 0, 0, 0, 0, 0, 0, 0, 0, 0, 0, 0, 0, 0, 0, 0, 0, 0, 0, 0, 0, 0, 0, 0, 0, 0, 0, 0, 0, 0, 0, 0, 0, 0, 0, 0, 0, 0, 0, 0, 0, 0, 0, 0, 0, 0, 0, 0, 0, 0, 0, 0, 0, 0, 0, 0, 0, 0, 0, 0, 0, 0, 0, 0, 0, 0, 0, 0, 0, 0, 0, 0, 0, 0, 0, 0, 0, 0, 0, 0, 0, 0, 0, 0, 0, 0, 0, 0, 0, 0, 0, 0, 0, 0, 0, 0, 0, 0, 0, 0, 0, 0, 0, 0, 0, 0, 0, 0, 0, 0, 0, 0, 0, 0, 0, 0, 0, 0, 0, 0, 0, 0, 0, 0, 0, 0, 0, 0, 0, 0, 0, 0, 0, 0, 0, 0, 0, 0, 0, 0, 0, 0, 0, 0, 0, 0, 0, 0, 0, 0, 0, 0, 0, 0, 0, 0, 0, 0, 0, 0, 0, 0, 0, 0, 0, 0, 0, 0, 0, 0, 0, 0, 0, 0, 0, 0, 0, 0, 0, 0, 0, 0, 0, 0, 0, 0, 0, 0, 0, 0, 0, 0, 0, 0, 0, 0, 0, 0, 0, 0, 0, 0, 0, 0, 0, 0, 0, 0, 0, 0, 0, 0] : Y3) t) (fun u => some (L.notB (L.eqI u 0))))) (some false)) (fun v => L.cnd v (some (Sum.inl (s.1, s.2.1, L.addI .i64 s.d2 1, s.d3, ()))) (some (Sum.inr (Sum.inl (s.1, s.2.1, s.d2, s.d2, s.d3, ())))))) (m.1, L.addI .i64 m.2.1 1, L.addI .i64 m.d3 1, ⟨m.d4.nil, L.setL m.d4.l q r⟩, ())))))))) (L.sumE (fun w => some (Sum.inl (w.1, w.2.1, w.d2, w.d3, w.d4, ()))))) (L.bnd (L.cnd (L.ltI m.d2 (L.lenI m.1)) (L.bnd (L.cutL m.1 m.d2 (L.lenI m.1)) (fun y => L.bnd (L.okAt m.d4.l m.2.1) (fun z => L.bnd (L.bnd (L.nth m.d4.l z) (fun _ => some y)) (fun bb => some (⟨m.d4.nil, L.setL m.d4.l z bb⟩, ()))))) (some (m.d4, ()))) (fun bd => some (Sum.inr (Sum.inr (Sum.inr (bd.1, ()))))))) (h.1, h.2.1, h.d2, h.d2, h.d3, ())))) (b.1, 0, 0, ⟨false, L.rep g ([] : Y3)⟩, ()))))) (x.1, 0, 1, 0, 0, ())
noncomputable def f_da := b_da lf
def b_at (L : Lf) (c0 : Y44 → Option Y14) (_x : Unit) : Option Y14 :=
 L.bnd (c0 (([108, 101, 116, 32, 114, 101, 99, 32, 105, 110, 32, 102, 117, 110, 32, 105, 102, 32, 116, 104, 101, 110, 32, 101, 108, 115, 101, 32, 109, 97, 116, 99, 104, 32, 119, 105, 116, 104, 32, 101, 110, 100, 32, 114, 97, 105, 115, 101, 32, 116, 114, 121, 32, 111, 112, 101, 110, 32, 116, 121, 112, 101, 32, 111, 102, 32, 105, 110, 102, 105, 120, 108, 32, 105, 110, 102, 105, 120, 114, 32, 105, 110, 102, 105, 120, 32, 45, 62, 32, 61, 32, 124, 32, 40, 32, 41, 32, 95, 32, 59, 59] : Y3), ())) (fun b => some (b.1, ()))
noncomputable def f_at := b_at lf f_da
def b_ai (L : Lf) (c0 : ((Sl Y3) × Y3 × Unit) → Option Y4) (c1 : Unit → Option Y14) (x : Y44) : Option Y4 :=
 L.bnd (c1 ()) (fun b => L.bnd (c0 (b.1, x.1, ())) (fun d => some (d.1, ())))
noncomputable def f_ai := b_ai lf f_cn f_at
def b_ak (L : Lf) (c0 : Yf3) (c1 : Yf3) (c2 : Yf5) (x : Y53) : Option Y4 :=
 L.bnd (c0 (x.1.2.1, ())) (fun b => L.bnd (L.cnd b.1 (L.bnd (L.at? x.1.2.1 0) (fun d => L.bnd (c2 (d, ())) (fun e => some e.1))) (some false)) (fun g => L.bnd (L.cnd g (L.bnd (c1 (x.1.2.1, ())) (fun h => some (L.notB h.1))) (some false)) (fun i => some (i, ()))))
noncomputable def f_ak := b_ak lf f_am f_ai f_as
def b_al (L : Lf) (c0 : Yf3) (c1 : Yf3) (c2 : Yf5) (x : Y53) : Option Y4 :=
 L.bnd (c0 (x.1.2.1, ())) (fun b => L.bnd (L.cnd b.1 (L.bnd (L.at? x.1.2.1 0) (fun d => L.bnd (c2 (d, ())) (fun e => some e.1))) (some false)) (fun g => L.bnd (L.cnd g (L.bnd (c1 (x.1.2.1, ())) (fun h => some (L.notB h.1))) (some false)) (fun i => some (i, ()))))
noncomputable def f_al := b_al lf f_am f_ai f_ap
def f_db (x : Y3 × Int × Unit) : Option Y6 := some (ixB x.2.1 x.1, ())
def b_ar (L : Lf) (c0 : (Y3 × Int × Unit) → Option Y6) (x : Y6) : Option Y4 :=
 L.bnd (c0 (([33, 36, 37, 38, 42, 43, 45, 47, 58, 60, 61, 62, 63, 64, 94, 124] : Y3), x.1, ())) (fun b => some (L.leI 0 b.1, ()))
noncomputable def f_ar := b_ar lf f_db
def b_an (L : Lf) (c0 : Yf5) (x : Y44) : Option Y4 :=
 L.loopR (fun (b : Y3 × Y3 × Int × Unit) => L.cnd (L.ltI b.d2 (L.lenI b.2.1)) (L.bnd (L.cnd (L.ltI b.d2 (L.lenI b.2.1)) (some (L.runeI b.2.1 b.d2)) none) (fun d => L.bnd (L.cnd (L.ltI 126 d) (some true) (L.bnd (c0 (L.cvI .u8 d, ())) (fun e => some (L.notB e.1)))) (fun g => L.cnd g (some (Sum.inr (false, ()))) (some (Sum.inl (b.1, b.2.1, L.nextI b.2.1 b.d2, ())))))) (some (Sum.inr (L.notB (L.eqS b.1 ([] : Y3)), ())))) (x.1, x.1, 0, ())
noncomputable def f_an := b_an lf f_ar
def b_aj (L : Lf) (c0 : Yf7) (c1 : Yf4) (c2 : Yf4) (c3 : Yf3) (c4 : Yf3) (x : Y53) : Option Y4 :=
 L.bnd (L.cnd (L.ltI x.1.2.2.2 0) (some true) (L.cnd (L.notB (L.eqI x.1.1 3)) (some (L.notB (L.eqI x.1.d2 0))) (some false))) (fun b => L.bnd (L.cnd b (some true) (L.cnd (L.eqI x.1.1 3) (some (L.notB (L.eqS x.1.2.1 ([] : Y3)))) (some false))) (fun d => L.cnd d (some (false, ())) (L.cnd (L.eqI x.1.1 1) (L.bnd (c1 ((x.1.1, x.1.2.1, x.1.d2, x.1.2.2.2), ())) (fun e => some (e.1, ()))) (L.cnd (L.eqI x.1.1 2) (L.bnd (c2 ((x.1.1, x.1.2.1, x.1.d2, x.1.2.2.2), ())) (fun g => some (g.1, ()))) (L.cnd (L.eqI x.1.1 3) (L.bnd (c0 (x.1.d2, ())) (fun h => some (L.eqI h.1 x.1.d2, ()))) (L.cnd (L.eqI x.1.1 4) (some (L.leI (L.lenI x.1.2.1) 200, ())) (L.cnd (L.eqI x.1.1 5) (L.bnd (c3 (x.1.2.1, ())) (fun i => L.bnd (L.cnd i.1 (L.bnd (c4 (x.1.2.1, ())) (fun j => some (L.notB j.1))) (some false)) (fun k => some (k, ())))) (L.cnd (L.eqI x.1.1 6) (L.bnd (c4 (x.1.2.1, ())) (fun m => some (m.1, ()))) (some (false, ()))))))))))
noncomputable def f_aj := b_aj lf f_e4 f_ak f_al f_an f_ai
def b_ad (L : Lf) (c0 : Yf4) (x : Y44) : Option Y4 :=
 L.bnd (c0 ((2, x.1, 0, 0), ())) (fun b => some (b.1, ()))
noncomputable def f_ad := b_ad lf f_aj
def b_e3 (L : Lf) (c0 : Yf4) (x : Y53) : Option Y4 :=
 L.cnd (L.eqI x.1.1 31) (L.bnd (L.cnd (L.eqI x.1.2.2.2 0) (some (L.eqS x.1.2.1 ([] : Y3))) (some false)) (fun b => L.bnd (L.cnd b (some (L.leI 0 x.1.d2)) (some false)) (fun d => L.bnd (L.cnd d (some (L.leI x.1.d2 1048576)) (some false)) (fun e => some (e, ()))))) (L.bnd (L.cnd (L.notB (L.eqI x.1.1 32)) (some true) (some (L.notB (L.eqI x.1.d2 0)))) (fun g => L.cnd g (some (false, ())) (L.cnd (L.eqS x.1.2.1 ([45, 62] : Y3)) (some (L.eqI x.1.2.2.2 2, ())) (L.bnd (L.cnd (L.eqS x.1.2.1 ([105, 110, 116] : Y3)) (some (x.1.2.1, L.eqS x.1.2.1 ([105, 110, 116] : Y3), x.1.1, x.1.2.1, x.1.d2, x.1.2.2.2, ())) (some (x.1.2.1, L.eqS x.1.2.1 ([116, 101, 120, 116] : Y3), x.1.1, x.1.2.1, x.1.d2, x.1.2.2.2, ()))) (fun h => L.cnd h.2.1 (some (L.eqI h.d5 0, ())) (L.cnd (L.eqS h.1 ([114, 101, 102] : Y3)) (some (L.eqI h.d5 1, ())) (L.bnd (c0 ((2, h.d3, 0, 0), ())) (fun i => L.bnd (L.cnd i.1 (some (L.leI h.d5 8)) (some false)) (fun j => some (j, ()))))))))))
noncomputable def f_e3 := b_e3 lf f_aj
def b_e1 (L : Lf) (c0 : Yf4) (x : Y53) : Option Y4 :=
 L.bnd (c0 ((x.1.1, x.1.2.1, x.1.d2, x.1.2.2.2), ())) (fun b => some (L.notB b.1, ()))
noncomputable def f_e1 := b_e1 lf f_e3
def b_cs (L : Lf) (c0 : Yf4) (x : Y9) : Option Y6 :=
 L.loopR (fun (b : (Sl Y0) × Int × Int × Unit) => L.cnd (L.ltI b.d2 b.2.1) (L.bnd (L.at? b.1.l b.d2) (fun d => L.bnd (c0 (d, ())) (fun e => L.cnd e.1 (some (Sum.inr (b.d2, ()))) (some (Sum.inl (b.1, b.2.1, L.addI .i64 b.d2 1, ())))))) (some (Sum.inr ((-1), ())))) (x.1, L.lenI x.1.l, 0, ())
noncomputable def f_cs := b_cs lf f_e1
def b_ci (L : Lf) (c0 : Yf8) (x : Y9) : Option Y4 :=
 L.bnd (c0 (x.1, ())) (fun b => some (L.leI 0 b.1, ()))
noncomputable def f_ci := b_ci lf f_cs
def b_dt (L : Lf) (x : Y12) : Option Y6 :=
 L.cnd (L.ltI x.2.1 0) (some ((-1), ())) (L.loopR (fun (b : (Sl Y0) × Int × Int × Unit) => L.bnd (L.cnd (L.leI (L.lenI b.1.l) b.2.1) (some true) (L.bnd (L.at? b.1.l b.2.1) (fun d => some (L.ltI d.2.2.2 0)))) (fun e => L.bnd (L.cnd e (some true) (L.bnd (L.at? b.1.l b.2.1) (fun g => some (L.ltI (L.lenI b.1.l) g.2.2.2)))) (fun h => L.cnd h (some (Sum.inr ((-1), ()))) (L.bnd (L.at? b.1.l b.2.1) (fun i => L.cnd (L.ltI 0 (L.addI .i64 b.d2 (L.subI .i64 i.2.2.2 1))) (some (Sum.inl (b.1, L.addI .i64 b.2.1 1, L.addI .i64 b.d2 (L.subI .i64 i.2.2.2 1), ()))) (some (Sum.inr (L.addI .i64 b.2.1 1, ())))))))) (x.1, x.2.1, 1, ()))
noncomputable def f_dt := b_dt lf
def b_dx (L : Lf) (c0 : Yf2) (x : Y9) : Option Y4 :=
 L.bnd (L.cnd (L.ltI 0 (L.lenI x.1.l)) (L.bnd (c0 (x.1, 0, ())) (fun b => some (L.eqI b.1 (L.lenI x.1.l)))) (some false)) (fun d => some (d, ()))
noncomputable def f_dx := b_dx lf f_dt
def b_e0 (L : Lf) (c0 : Yf1) (c1 : Yf1) (x : Y9) : Option Y6 :=
 L.bnd (L.cnd (L.ltI 4000 (L.lenI x.1.l)) (some true) (L.bnd (c1 (x.1, ())) (fun b => some (L.notB b.1)))) (fun d => L.cnd d (L.cnd true (some (90, ())) (some (0, ()))) (L.bnd (c0 (x.1, ())) (fun e => L.cnd e.1 (some (90, ())) (some (0, ())))))
noncomputable def f_e0 := b_e0 lf f_ci f_dx
def b_ag (L : Lf) (x : Y19) : Option Y18 :=
 some (L.leI x.d2 x.1, x.2.1, x.d2, x.d3, ())
noncomputable def f_ag := b_ag lf
def b_cz (L : Lf) (c0 : Y19 → Option Y18) (x : (Sl Int) × Y3 × Int × (Sl Y5) × Unit) : Option Y19 :=
 L.loopR (fun (b : (Sl Int) × Int × Int × Y3 × Int × (Sl Y5) × Unit) => L.cnd (L.ltI b.d2 b.2.1) (L.bnd (L.at? b.1.l b.d2) (fun d => L.bnd (c0 (d, b.d3, b.d4, b.d5, ())) (fun e => L.cnd e.1 (some (Sum.inr (b.d2, e.2.1, e.d2, e.d3, ()))) (some (Sum.inl (b.1, b.2.1, L.addI .i64 b.d2 1, e.2.1, e.d2, e.d3, ())))))) (some (Sum.inr ((-1), b.d3, b.d4, b.d5, ())))) (x.1, L.lenI x.1.l, 0, x.2.1, x.d2, x.d3, ())
noncomputable def f_cz := b_cz lf f_ag
def b_ce (L : Lf) (c0 : ((Sl Int) × Y3 × Int × (Sl Y5) × Unit) → Option Y19) (x : (Sl Int) × Y3 × Int × (Sl Y5) × Unit) : Option Y18 :=
 L.bnd (c0 (x.1, x.2.1, x.d2, x.d3, ())) (fun b => some (L.leI 0 b.1, b.2.1, b.d2, b.d3, ()))
noncomputable def f_ce := b_ce lf f_cz
def b_cp (L : Lf) (x : Y54) : Option Y6 :=
 L.loopR (fun (b : (Sl Int) × Int × Int × Int × Unit) => L.cnd (L.ltI b.d3 b.d2) (L.bnd (L.at? b.1.l b.d3) (fun d => L.cnd (L.eqI b.2.1 d) (some (Sum.inr (b.d3, ()))) (some (Sum.inl (b.1, b.2.1, b.d2, L.addI .i64 b.d3 1, ()))))) (some (Sum.inr ((-1), ())))) (x.1, x.2.1, L.lenI x.1.l, 0, ())
noncomputable def f_cp := b_cp lf
def b_ca (L : Lf) (c0 : Y54 → Option Y6) (x : Y54) : Option Y4 :=
 L.bnd (c0 (x.1, x.2.1, ())) (fun b => some (L.leI 0 b.1, ()))
noncomputable def f_ca := b_ca lf f_cp
def b_e2 (L : Lf) (c0 : Yf8) (c1 : Y54 → Option Y4) (x : Y9) : Option Y23 :=
 L.bnd (c0 (x.1, ())) (fun b => L.cnd (L.notB (L.eqI b.1 0)) (some (⟨true, ([] : Y3)⟩, ())) (L.loopR (fun (d : (Sl Y0) × Int × Int × (Sl Int) × Unit) => L.cnd (L.ltI d.d2 d.2.1) (L.bnd (L.at? d.1.l d.d2) (fun e => L.bnd (L.cnd (L.eqI e.1 31) (L.bnd (c1 (d.d3, e.d2, ())) (fun g => some (L.notB g.1))) (some false)) (fun h => L.bnd (L.cnd h (L.bnd (L.fit (L.sumI (L.lenI d.d3.l) (L.lenI ([e.d2] : Y3)))) (fun _ => some (d.1, d.2.1, d.d2, ⟨L.andB d.d3.nil (L.isE ([e.d2] : Y3)), L.app d.d3.l ([e.d2] : Y3)⟩, ()))) (some (d.1, d.2.1, d.d2, d.d3, ()))) (fun i => some (Sum.inl (i.1, i.2.1, L.addI .i64 i.d2 1, i.d3, ())))))) (some (Sum.inr (d.d3, ())))) (x.1, L.lenI x.1.l, 0, ⟨true, ([] : Y3)⟩, ())))
noncomputable def f_e2 := b_e2 lf f_e0 f_ca
def b_af (L : Lf) (c0 : Yf8) (c1 : ((Sl Int) × Y3 × Int × (Sl Y5) × Unit) → Option Y18) (c2 : Y9 → Option Y23) (x : (Sl Y0) × Y3 × Int × (Sl Y5) × Unit) : Option Y18 :=
 L.bnd (c0 (x.1, ())) (fun b => L.cnd (L.eqI b.1 0) (L.bnd (c2 (x.1, ())) (fun d => L.bnd (c1 (d.1, x.2.1, x.d2, x.d3, ())) (fun e => some (L.notB e.1, e.2.1, e.d2, e.d3, ())))) (some (false, x.2.1, x.d2, x.d3, ())))
noncomputable def f_af := b_af lf f_e0 f_ce f_e2
def b_ah (L : Lf) (c0 : ((Sl Y0) × Y3 × Int × (Sl Y5) × Unit) → Option Y18) (x : (Sl Y0) × Y3 × Int × (Sl Y5) × Unit) : Option Y18 :=
 L.bnd (c0 (x.1, x.2.1, x.d2, x.d3, ())) (fun b => some (L.notB b.1, b.2.1, b.d2, b.d3, ()))
noncomputable def f_ah := b_ah lf f_af
def b_d0 (L : Lf) (c0 : ((Sl Y0) × Y3 × Int × (Sl Y5) × Unit) → Option Y18) (x : Y2 × Y3 × Int × (Sl Y5) × Unit) : Option Y19 :=
 L.loopR (fun (b : Y2 × Int × Int × Y3 × Int × (Sl Y5) × Unit) => L.cnd (L.ltI b.d2 b.2.1) (L.bnd (L.at? b.1.l b.d2) (fun d => L.bnd (c0 (d, b.d3, b.d4, b.d5, ())) (fun e => L.cnd e.1 (some (Sum.inr (b.d2, e.2.1, e.d2, e.d3, ()))) (some (Sum.inl (b.1, b.2.1, L.addI .i64 b.d2 1, e.2.1, e.d2, e.d3, ())))))) (some (Sum.inr ((-1), b.d3, b.d4, b.d5, ())))) (x.1, L.lenI x.1.l, 0, x.2.1, x.d2, x.d3, ())
noncomputable def f_d0 := b_d0 lf f_ah
def b_ch (L : Lf) (c0 : (Y2 × Y3 × Int × (Sl Y5) × Unit) → Option Y19) (x : Y2 × Y3 × Int × (Sl Y5) × Unit) : Option Y18 :=
 L.bnd (c0 (x.1, x.2.1, x.d2, x.d3, ())) (fun b => some (L.leI 0 b.1, b.2.1, b.d2, b.d3, ()))
noncomputable def f_ch := b_ch lf f_d0
def b_ae (L : Lf) (c0 : Yf3) (c1 : (Y2 × Y3 × Int × (Sl Y5) × Unit) → Option Y18) (x : Y1 × Unit) : Option Y4 :=
 L.bnd (c0 (x.1.1, ())) (fun b => L.bnd (L.cnd (L.notB b.1) (some true) (some (L.ltI x.1.2.1 0))) (fun d => L.bnd (L.cnd d (some true) (some (L.ltI 8 x.1.2.1))) (fun e => L.bnd (L.cnd e (some true) (some (L.ltI (L.lenI x.1.2.2.l) 1))) (fun g => L.bnd (L.cnd g (some true) (some (L.ltI 60 (L.lenI x.1.2.2.l)))) (fun h => L.cnd h (some (false, ())) (L.loopR (fun (i : (Sl Y5) × Int × Int × Y3 × Int × (Sl Y5) × Unit) => L.cnd (L.ltI i.d2 i.2.1) (L.bnd (L.at? i.1.l i.d2) (fun j => L.bnd (c0 (j.1, ())) (fun k => L.bnd (L.cnd (L.notB k.1) (some true) (some (L.ltI 8 (L.lenI j.2.l)))) (fun m => L.cnd m (L.cnd true (some (Sum.inr (false, ()))) (some (Sum.inl (i.1, i.2.1, L.addI .i64 i.d2 1, i.d3, i.d4, i.d5, ())))) (L.bnd (c1 (j.2, i.d3, i.d4, i.d5, ())) (fun n => L.cnd n.1 (some (Sum.inr (false, ()))) (some (Sum.inl (i.1, i.2.1, L.addI .i64 i.d2 1, n.2.1, n.d2, n.d3, ()))))))))) (some (Sum.inr (true, ())))) (x.1.2.2, L.lenI x.1.2.2.l, 0, x.1.1, x.1.2.1, x.1.2.2, ())))))))
noncomputable def f_ae := b_ae lf f_ad f_ch
def b_a1 (L : Lf) (c0 : (Y1 × Unit) → Option Y4) (x : Y1 × Unit) : Option Y4 :=
 L.bnd (c0 ((x.1.1, x.1.2.1, x.1.2.2), ())) (fun b => some (L.notB b.1, ()))
noncomputable def f_a1 := b_a1 lf f_ae
def b_d2 (L : Lf) (c0 : (Y1 × Unit) → Option Y4) (x : Y46) : Option Y6 :=
 L.loopR (fun (b : Y34) => L.cnd (L.ltI b.d2 b.2.1) (L.bnd (L.at? b.1.l b.d2) (fun d => L.bnd (c0 (d, ())) (fun e => L.cnd e.1 (some (Sum.inr (b.d2, ()))) (some (Sum.inl (b.1, b.2.1, L.addI .i64 b.d2 1, ())))))) (some (Sum.inr ((-1), ())))) (x.1, L.lenI x.1.l, 0, ())
noncomputable def f_d2 := b_d2 lf f_a1
def b_cb (L : Lf) (c0 : Yf14) (x : Y46) : Option Y4 :=
 L.bnd (c0 (x.1, ())) (fun b => some (L.leI 0 b.1, ()))
noncomputable def f_cb := b_cb lf f_d2
def b_a2 (L : Lf) (x : Y1 × Y1 × Unit) : Option Y4 :=
 some (L.eqS x.1.1 x.2.1.1, ())
noncomputable def f_a2 := b_a2 lf
def b_d3 (L : Lf) (c0 : (Y1 × Y1 × Unit) → Option Y4) (x : (Sl Y1) × Y1 × Unit) : Option Y6 :=
 L.loopR (fun (b : (Sl Y1) × Y1 × Int × Int × Unit) => L.cnd (L.ltI b.d3 b.d2) (L.bnd (L.at? b.1.l b.d3) (fun d => L.bnd (c0 (d, b.2.1, ())) (fun e => L.cnd e.1 (some (Sum.inr (b.d3, ()))) (some (Sum.inl (b.1, b.2.1, b.d2, L.addI .i64 b.d3 1, ())))))) (some (Sum.inr ((-1), ())))) (x.1, x.2.1, L.lenI x.1.l, 0, ())
noncomputable def f_d3 := b_d3 lf f_a2
def b_a9 (L : Lf) (x : Int × Int × (Sl Y1) × Y3 × Int × Int × Unit) : Option Y52 :=
 L.bnd (L.at? x.d2.l x.1) (fun b => L.bnd (L.at? b.2.2.l x.2.1) (fun d => L.cnd (L.notB (L.eqS d.1 x.d3)) (some (false, x.d4, x.d5, ())) (some (true, x.1, x.2.1, ()))))
noncomputable def f_a9 := b_a9 lf
def b_ac (L : Lf) (c0 : (Int × Int × (Sl Y1) × Y3 × Int × Int × Unit) → Option Y52) (x : (Sl Y1) × (Sl Y1) × Y3 × Int × Int × Unit) : Option Y52 :=
 L.loopR (fun (b : (Sl Y1) × Y3 × (Sl Y1) × Int × Int × Int × Int × Unit) => L.cnd (L.ltI b.d4 b.d3) (L.bnd (L.at? b.d2.l b.d4) (fun d => L.loopR (fun (e : (Sl Y1) × Y3 × Int × (Sl Y1) × Int × Int × Int × Int × Int × Int × Unit) => L.cnd (L.ltI e.d7 e.d6) (L.bnd (c0 (e.d2, e.d7, e.1, e.2.1, e.d8, e.d9, ())) (fun g => L.cnd g.1 (some (Sum.inr (Sum.inr (true, g.2.1, g.d2, ())))) (some (Sum.inl (e.1, e.2.1, e.d2, e.d3, e.d4, e.d5, e.d6, L.addI .i64 e.d7 1, g.2.1, g.d2, ()))))) (some (Sum.inr (Sum.inl (e.1, e.2.1, e.d3, e.d4, L.addI .i64 e.d5 1, e.d8, e.d9, ()))))) (b.1, b.2.1, b.d4, b.d2, b.d3, b.d4, L.lenI d.2.2.l, 0, b.d5, b.d6, ()))) (some (Sum.inr (false, b.d5, b.d6, ())))) (x.2.1, x.d2, x.1, L.lenI x.1.l, 0, x.d3, x.d4, ())
noncomputable def f_ac := b_ac lf f_a9
def b_a8 (L : Lf) (c0 : ((Sl Y1) × (Sl Y1) × Y3 × Int × Int × Unit) → Option Y52) (x : (Sl Y1) × Y3 × Unit) : Option (Int × Int × Bool × Unit) :=
 L.bnd (c0 (x.1, x.1, x.2.1, 0, 0, ())) (fun b => some (b.2.1, b.d2, b.1, ()))
noncomputable def f_a8 := b_a8 lf f_ac
def b_a3 (L : Lf) (c0 : ((Sl Y1) × Y3 × Unit) → Option (Int × Int × Bool × Unit)) (x : Int × Int × (Sl Y1) × Unit) : Option Y13 :=
 L.bnd (L.at? x.d2.l x.1) (fun b => L.bnd (L.at? b.2.2.l x.2.1) (fun d => L.bnd (c0 (x.d2, d.1, ())) (fun e => L.bnd (L.cnd (L.notB (L.eqI e.1 x.1)) (some true) (some (L.notB (L.eqI e.2.1 x.2.1)))) (fun g => some (g, x.d2, ())))))
noncomputable def f_a3 := b_a3 lf f_a8
def b_aa (L : Lf) (c0 : (Int × Int × (Sl Y1) × Unit) → Option Y13) (x : (Sl Y1) × (Sl Y1) × Unit) : Option Y13 :=
 L.loopR (fun (b : Y43) => L.cnd (L.ltI b.d2 b.2.1) (L.bnd (L.at? b.1.l b.d2) (fun d => L.loopR (fun (e : Int × (Sl Y1) × Int × Int × Int × Int × (Sl Y1) × Unit) => L.cnd (L.ltI e.d5 e.d4) (L.bnd (c0 (e.1, e.d5, e.d6, ())) (fun g => L.cnd g.1 (some (Sum.inr (Sum.inr (true, g.2.1, ())))) (some (Sum.inl (e.1, e.2.1, e.d2, e.d3, e.d4, L.addI .i64 e.d5 1, g.2.1, ()))))) (some (Sum.inr (Sum.inl (e.2.1, e.d2, L.addI .i64 e.d3 1, e.d6, ()))))) (b.d2, b.1, b.2.1, b.d2, L.lenI d.2.2.l, 0, b.d3, ()))) (some (Sum.inr (false, b.d3, ())))) (x.1, L.lenI x.1.l, 0, x.2.1, ())
noncomputable def f_aa := b_aa lf f_a3
def b_a5 (L : Lf) (x : Y1 × Y0 × Unit) : Option Y4 :=
 L.bnd (L.cnd (L.eqS x.1.1 x.2.1.2.1) (some (L.eqI x.1.2.1 x.2.1.2.2.2)) (some false)) (fun b => some (b, ()))
noncomputable def f_a5 := b_a5 lf
def b_d4 (L : Lf) (c0 : (Y1 × Y0 × Unit) → Option Y4) (x : (Sl Y1) × Y0 × Unit) : Option Y6 :=
 L.loopR (fun (b : (Sl Y1) × Y0 × Int × Int × Unit) => L.cnd (L.ltI b.d3 b.d2) (L.bnd (L.at? b.1.l b.d3) (fun d => L.bnd (c0 (d, b.2.1, ())) (fun e => L.cnd e.1 (some (Sum.inr (b.d3, ()))) (some (Sum.inl (b.1, b.2.1, b.d2, L.addI .i64 b.d3 1, ())))))) (some (Sum.inr ((-1), ())))) (x.1, x.2.1, L.lenI x.1.l, 0, ())
noncomputable def f_d4 := b_d4 lf f_a5
def b_cf (L : Lf) (c0 : ((Sl Y1) × Y0 × Unit) → Option Y6) (x : (Sl Y1) × Y0 × Unit) : Option Y4 :=
 L.bnd (c0 (x.1, x.2.1, ())) (fun b => some (L.leI 0 b.1, ()))
noncomputable def f_cf := b_cf lf f_d4
def b_a4 (L : Lf) (c0 : ((Sl Y1) × Y0 × Unit) → Option Y4) (c1 : Yf3) (x : Y0 × (Sl Y1) × Unit) : Option Y13 :=
 L.bnd (L.cnd (L.notB (L.eqI x.1.1 32)) (some true) (L.bnd (c1 (x.1.2.1, ())) (fun b => some (L.notB b.1)))) (fun d => L.cnd d (some (false, x.2.1, ())) (L.bnd (c0 (x.2.1, (x.1.1, x.1.2.1, x.1.d2, x.1.2.2.2), ())) (fun e => some (L.notB e.1, x.2.1, ()))))
noncomputable def f_a4 := b_a4 lf f_cf f_ad
def b_cu (L : Lf) (c0 : (Y0 × (Sl Y1) × Unit) → Option Y13) (x : (Sl Y0) × (Sl Y1) × Unit) : Option Y55 :=
 L.loopR (fun (b : (Sl Y0) × Int × Int × (Sl Y1) × Unit) => L.cnd (L.ltI b.d2 b.2.1) (L.bnd (L.at? b.1.l b.d2) (fun d => L.bnd (c0 (d, b.d3, ())) (fun e => L.cnd e.1 (some (Sum.inr (b.d2, e.2.1, ()))) (some (Sum.inl (b.1, b.2.1, L.addI .i64 b.d2 1, e.2.1, ())))))) (some (Sum.inr ((-1), b.d3, ())))) (x.1, L.lenI x.1.l, 0, x.2.1, ())
noncomputable def f_cu := b_cu lf f_a4
def b_ck (L : Lf) (c0 : ((Sl Y0) × (Sl Y1) × Unit) → Option Y55) (x : (Sl Y0) × (Sl Y1) × Unit) : Option Y13 :=
 L.bnd (c0 (x.1, x.2.1, ())) (fun b => some (L.leI 0 b.1, b.2.1, ()))
noncomputable def f_ck := b_ck lf f_cu
def b_a7 (L : Lf) (c0 : ((Sl Y0) × (Sl Y1) × Unit) → Option Y13) (x : (Sl Y0) × (Sl Y1) × Unit) : Option Y13 :=
 L.bnd (c0 (x.1, x.2.1, ())) (fun b => some (b.1, b.2.1, ()))
noncomputable def f_a7 := b_a7 lf f_ck
def b_cq (L : Lf) (c0 : ((Sl Y0) × (Sl Y1) × Unit) → Option Y13) (x : Y2 × (Sl Y1) × Unit) : Option Y55 :=
 L.loopR (fun (b : Y2 × Int × Int × (Sl Y1) × Unit) => L.cnd (L.ltI b.d2 b.2.1) (L.bnd (L.at? b.1.l b.d2) (fun d => L.bnd (c0 (d, b.d3, ())) (fun e => L.cnd e.1 (some (Sum.inr (b.d2, e.2.1, ()))) (some (Sum.inl (b.1, b.2.1, L.addI .i64 b.d2 1, e.2.1, ())))))) (some (Sum.inr ((-1), b.d3, ())))) (x.1, L.lenI x.1.l, 0, x.2.1, ())
noncomputable def f_cq := b_cq lf f_a7
def b_cg (L : Lf) (c0 : (Y2 × (Sl Y1) × Unit) → Option Y55) (x : Y2 × (Sl Y1) × Unit) : Option Y13 :=
 L.bnd (c0 (x.1, x.2.1, ())) (fun b => some (L.leI 0 b.1, b.2.1, ()))
noncomputable def f_cg := b_cg lf f_cq
def b_a6 (L : Lf) (c0 : (Y2 × (Sl Y1) × Unit) → Option Y13) (x : Int × Int × (Sl Y1) × Unit) : Option Y13 :=
 L.bnd (L.at? x.d2.l x.1) (fun b => L.bnd (L.at? b.2.2.l x.2.1) (fun d => L.bnd (c0 (d.2, x.d2, ())) (fun e => some (e.1, e.2.1, ()))))
noncomputable def f_a6 := b_a6 lf f_cg
def b_ab (L : Lf) (c0 : (Int × Int × (Sl Y1) × Unit) → Option Y13) (x : (Sl Y1) × (Sl Y1) × Unit) : Option Y13 :=
 L.loopR (fun (b : Y43) => L.cnd (L.ltI b.d2 b.2.1) (L.bnd (L.at? b.1.l b.d2) (fun d => L.loopR (fun (e : Int × (Sl Y1) × Int × Int × Int × Int × (Sl Y1) × Unit) => L.cnd (L.ltI e.d5 e.d4) (L.bnd (c0 (e.1, e.d5, e.d6, ())) (fun g => L.cnd g.1 (some (Sum.inr (Sum.inr (true, g.2.1, ())))) (some (Sum.inl (e.1, e.2.1, e.d2, e.d3, e.d4, L.addI .i64 e.d5 1, g.2.1, ()))))) (some (Sum.inr (Sum.inl (e.2.1, e.d2, L.addI .i64 e.d3 1, e.d6, ()))))) (b.d2, b.1, b.2.1, b.d2, L.lenI d.2.2.l, 0, b.d3, ()))) (some (Sum.inr (false, b.d3, ())))) (x.1, L.lenI x.1.l, 0, x.2.1, ())
noncomputable def f_ab := b_ab lf f_a6
def b_a0 (L : Lf) (c0 : Y46 → Option Y4) (c1 : ((Sl Y1) × Y1 × Unit) → Option Y6) (c2 : ((Sl Y1) × (Sl Y1) × Unit) → Option Y13) (c3 : ((Sl Y1) × (Sl Y1) × Unit) → Option Y13) (x : Y46) : Option Y6 :=
 L.bnd (L.cnd (L.ltI 60 (L.lenI x.1.l)) (some true) (L.bnd (c0 (x.1, ())) (fun b => some b.1))) (fun d => L.cnd d (some (100, ())) (L.loopR (fun (e : Y43) => L.cnd (L.ltI e.d2 e.2.1) (L.bnd (L.at? e.1.l e.d2) (fun g => L.bnd (c1 (e.d3, (g.1, g.2.1, g.2.2), ())) (fun h => L.cnd (L.ltI h.1 e.d2) (some (Sum.inr (101, ()))) (some (Sum.inl (e.1, e.2.1, L.addI .i64 e.d2 1, e.d3, ())))))) (L.bnd (c2 (e.d3, e.d3, ())) (fun i => L.cnd i.1 (some (Sum.inr (101, ()))) (L.bnd (c3 (i.2.1, i.2.1, ())) (fun j => L.cnd j.1 (some (Sum.inr (102, ()))) (some (Sum.inr (0, ())))))))) (x.1, L.lenI x.1.l, 0, x.1, ())))
noncomputable def f_a0 := b_a0 lf f_cb f_d3 f_aa f_ab
def b_b7 (L : Lf) (x : Y1 × (Sl Y0) × Unit) : Option Y4 :=
 L.bnd (L.at? x.2.1.l 0) (fun b => L.cnd (L.eqI b.1 32) (L.bnd (L.at? x.2.1.l 0) (fun d => L.cnd (L.eqS x.1.1 d.2.1) (L.bnd (L.at? x.2.1.l 0) (fun e => some (L.eqI x.1.2.1 e.2.2.2, ()))) (some (false, ())))) (some (false, ())))
noncomputable def f_b7 := b_b7 lf
def b_d5 (L : Lf) (c0 : (Y1 × (Sl Y0) × Unit) → Option Y4) (x : (Sl Y1) × (Sl Y0) × Unit) : Option Y6 :=
 L.loopR (fun (b : (Sl Y1) × (Sl Y0) × Int × Int × Unit) => L.cnd (L.ltI b.d3 b.d2) (L.bnd (L.at? b.1.l b.d3) (fun d => L.bnd (c0 (d, b.2.1, ())) (fun e => L.cnd e.1 (some (Sum.inr (b.d3, ()))) (some (Sum.inl (b.1, b.2.1, b.d2, L.addI .i64 b.d3 1, ())))))) (some (Sum.inr ((-1), ())))) (x.1, x.2.1, L.lenI x.1.l, 0, ())
noncomputable def f_d5 := b_d5 lf f_b7
def b_b6 (L : Lf) (c0 : ((Sl Y1) × (Sl Y0) × Unit) → Option Y6) (x : (Sl Y1) × (Sl Y0) × Unit) : Option (Y1 × Bool × Unit) :=
 L.bnd (c0 (x.1, x.2.1, ())) (fun b => L.cnd (L.ltI b.1 0) (some ((([] : Y3), 0, ⟨true, ([] : List Y5)⟩), false, ())) (L.bnd (L.at? x.1.l b.1) (fun d => some ((d.1, d.2.1, d.2.2), true, ()))))
noncomputable def f_b6 := b_b6 lf f_d5
def b_b5 (L : Lf) (x : Y5 × Y3 × Unit) : Option Y4 :=
 some (L.eqS x.1.1 x.2.1, ())
noncomputable def f_b5 := b_b5 lf
def b_d6 (L : Lf) (c0 : (Y5 × Y3 × Unit) → Option Y4) (x : (Sl Y5) × Y3 × Unit) : Option Y6 :=
 L.loopR (fun (b : (Sl Y5) × Y3 × Int × Int × Unit) => L.cnd (L.ltI b.d3 b.d2) (L.bnd (L.at? b.1.l b.d3) (fun d => L.bnd (c0 (d, b.2.1, ())) (fun e => L.cnd e.1 (some (Sum.inr (b.d3, ()))) (some (Sum.inl (b.1, b.2.1, b.d2, L.addI .i64 b.d3 1, ())))))) (some (Sum.inr ((-1), ())))) (x.1, x.2.1, L.lenI x.1.l, 0, ())
noncomputable def f_d6 := b_d6 lf f_b5
def b_du (L : Lf) (c0 : Yf2) (x : Y12) : Option Y23 :=
 L.bnd (c0 (x.1, x.2.1, ())) (fun b => L.cnd (L.ltI b.1 0) (some (⟨true, ([] : Y3)⟩, ())) (L.bnd (L.at? x.1.l x.2.1) (fun d => L.loopR (fun (e : (Sl Y0) × Int × Int × (Sl Int) × Unit) => L.cnd (L.ltI (L.lenI e.d3.l) e.d2) (L.bnd (L.fit (L.sumI (L.lenI e.d3.l) (L.lenI ([e.2.1] : Y3)))) (fun _ => L.bnd (c0 (e.1, e.2.1, ())) (fun g => some (Sum.inl (e.1, g.1, e.d2, ⟨L.andB e.d3.nil (L.isE ([e.2.1] : Y3)), L.app e.d3.l ([e.2.1] : Y3)⟩, ()))))) (some (Sum.inr (e.d3, ())))) (x.1, L.addI .i64 x.2.1 1, d.2.2.2, ⟨true, ([] : Y3)⟩, ()))))
noncomputable def f_du := b_du lf f_dt
def b_dz (L : Lf) (x : Y28 × Y0 × Unit) : Option Y4 :=
 some (L.eqI x.1.1 x.2.1.d2, ())
noncomputable def f_dz := b_dz lf
def b_cv (L : Lf) (c0 : (Y28 × Y0 × Unit) → Option Y4) (x : Y11 × Y0 × Unit) : Option Y6 :=
 L.loopR (fun (b : Y11 × Y0 × Int × Int × Unit) => L.cnd (L.ltI b.d3 b.d2) (L.bnd (L.at? b.1.l b.d3) (fun d => L.bnd (c0 (d, b.2.1, ())) (fun e => L.cnd e.1 (some (Sum.inr (b.d3, ()))) (some (Sum.inl (b.1, b.2.1, b.d2, L.addI .i64 b.d3 1, ())))))) (some (Sum.inr ((-1), ())))) (x.1, x.2.1, L.lenI x.1.l, 0, ())
noncomputable def f_cv := b_cv lf f_dz
def b_dy (L : Lf) (c0 : (Y11 × Y0 × Unit) → Option Y6) (x : Y11 × (Sl Y0) × Unit) : Option Y9 :=
 L.loopR (fun (b : Y11 × (Sl Y0) × Int × Int × (Sl Y0) × Unit) => L.cnd (L.ltI b.d3 b.d2) (L.bnd (L.at? b.2.1.l b.d3) (fun d => L.bnd (c0 (b.1, (d.1, d.2.1, d.d2, d.2.2.2), ())) (fun e => L.bnd (L.cnd (L.notB (L.eqI d.1 31)) (some true) (some (L.ltI e.1 0))) (fun g => L.bnd (L.cnd g (L.bnd (L.fit (L.sumI (L.lenI b.d4.l) (L.lenI ([(d.1, d.2.1, d.d2, d.2.2.2)] : List Y0)))) (fun _ => some (b.1, b.2.1, b.d2, b.d3, ⟨L.andB b.d4.nil (L.isE ([(d.1, d.2.1, d.d2, d.2.2.2)] : List Y0)), L.app b.d4.l ([(d.1, d.2.1, d.d2, d.2.2.2)] : List Y0)⟩, ()))) (L.bnd (L.at? b.1.l e.1) (fun h => L.bnd (L.fit (L.sumI (L.lenI b.d4.l) (L.lenI h.2.l))) (fun _ => some (b.1, b.2.1, b.d2, b.d3, ⟨L.andB b.d4.nil (L.isE h.2.l), L.app b.d4.l h.2.l⟩, ()))))) (fun i => some (Sum.inl (i.1, i.2.1, i.d2, L.addI .i64 i.d3 1, i.d4, ()))))))) (some (Sum.inr (b.d4, ())))) (x.1, x.2.1, L.lenI x.2.1.l, 0, ⟨true, ([] : List Y0)⟩, ())
noncomputable def f_dy := b_dy lf f_cv
def b_b4 (L : Lf) (c0 : ((Sl Y1) × (Sl Y0) × Unit) → Option (Y1 × Bool × Unit)) (c1 : ((Sl Y5) × Y3 × Unit) → Option Y6) (c2 : Yf10) (c3 : Yf2) (c4 : (Y11 × (Sl Y0) × Unit) → Option Y9) (x : Y24) : Option Y22 :=
 L.bnd (c0 (x.1, x.2.1, ())) (fun b => L.bnd (c1 (b.1.2.2, x.d2, ())) (fun d => L.bnd (L.cnd (L.notB b.2.1) (some true) (some (L.ltI d.1 0))) (fun e => L.cnd e (some (⟨true, ([] : List (Sl Y0))⟩, false, ())) (L.bnd (c2 (x.2.1, 0, ())) (fun g => L.loopR (fun (h : (Sl Y0) × Int × (Sl Int) × Int × Int × Y3 × Int × (Sl Y5) × Y11 × Unit) => L.cnd (L.ltI h.d4 h.d3) (L.bnd (L.at? h.d2.l h.d4) (fun i => L.bnd (c3 (h.1, i, ())) (fun j => L.bnd (L.cutL h.1.l i j.1) (fun k => L.bnd (L.fit (L.sumI (L.lenI h.d8.l) (L.lenI ([(h.d4, ⟨h.1.nil, k⟩)] : List Y28)))) (fun _ => some (Sum.inl (h.1, h.2.1, h.d2, h.d3, L.addI .i64 h.d4 1, h.d5, h.d6, h.d7, ⟨L.andB h.d8.nil (L.isE ([(h.d4, ⟨h.1.nil, k⟩)] : List Y28)), L.app h.d8.l ([(h.d4, ⟨h.1.nil, k⟩)] : List Y28)⟩, ()))))))) (L.bnd (L.at? h.d7.l h.2.1) (fun m => L.loopR (fun (n : Y11 × Y2 × Int × Int × Y2 × Unit) => L.cnd (L.ltI n.d3 n.d2) (L.bnd (L.at? n.2.1.l n.d3) (fun o => L.bnd (c4 (n.1, o, ())) (fun p => L.bnd (L.cnd (L.ltI 4000 (L.lenI p.1.l)) (some (n.1, ⟨false, ([(31, ([] : Y3), 0, 0)] : List Y0)⟩, n.2.1, n.d2, n.d3, n.d4, ())) (some (n.1, p.1, n.2.1, n.d2, n.d3, n.d4, ()))) (fun q => L.bnd (L.fit (L.sumI (L.lenI q.d5.l) (L.lenI ([q.2.1] : List (Sl Y0))))) (fun _ => some (Sum.inl (q.1, q.d2, q.d3, L.addI .i64 q.d4 1, ⟨L.andB q.d5.nil (L.isE ([q.2.1] : List (Sl Y0))), L.app q.d5.l ([q.2.1] : List (Sl Y0))⟩, ()))))))) (some (Sum.inr (Sum.inr (n.d4, true, ()))))) (h.d8, m.2, L.lenI m.2.l, 0, ⟨true, ([] : List (Sl Y0))⟩, ())))) (x.2.1, d.1, g.1, L.lenI g.1.l, 0, b.1.1, b.1.2.1, b.1.2.2, ⟨true, ([] : List Y28)⟩, ()))))))
noncomputable def f_b4 := b_b4 lf f_b6 f_d6 f_du f_dt f_dy
def b_au (L : Lf) (c0 : Yf14) (c1 : Yf8) (c2 : Yf9) (x : Y24) : Option Y22 :=
 L.bnd (c0 (x.1, ())) (fun b => L.bnd (L.cnd (L.notB (L.eqI b.1 0)) (some true) (L.bnd (c1 (x.2.1, ())) (fun d => some (L.notB (L.eqI d.1 0))))) (fun e => L.cnd e (some (⟨true, ([] : List (Sl Y0))⟩, false, ())) (L.bnd (c2 (x.1, x.2.1, x.d2, ())) (fun g => some (g.1, g.2.1, ())))))
noncomputable def f_au := b_au lf f_a0 f_e0 f_b4
def b_ds (L : Lf) (c0 : Yf1) (x : Y9) : Option Y6 :=
 L.bnd (c0 (x.1, ())) (fun b => L.cnd (L.notB b.1) (some (0, ())) (L.loopR (fun (d : Y58) => L.cnd (L.ltI d.d3 d.d2) (L.bnd (L.at? d.2.1.l d.d3) (fun e => L.bnd (L.fit (L.sumI (L.lenI d.d4.l) (L.lenI ([e.2.2.2] : Y3)))) (fun _ => L.loopR (fun (g : Y58) => L.bnd (L.cnd (L.ltI 0 (L.lenI g.d4.l)) (L.bnd (L.okAt g.d4.l (L.subI .i64 (L.lenI g.d4.l) 1)) (fun h => L.bnd (L.nth g.d4.l h) (fun i => some (L.eqI i 0)))) (some false)) (fun j => L.cnd j (L.bnd (L.cutN (L.lenI g.d4.l) (L.subI .i64 (L.lenI g.d4.l) 1)) (fun k => L.bnd (L.cnd (L.ltI 0 (L.lenI (L.takeL g.d4.l k))) (L.bnd (L.okAt (L.takeL g.d4.l k) (L.subI .i64 (L.lenI (L.takeL g.d4.l k)) 1)) (fun m => L.bnd (L.nth g.d4.l m) (fun n => L.bnd (L.okAt (L.takeL g.d4.l k) (L.subI .i64 (L.lenI (L.takeL g.d4.l k)) 1)) (fun o => L.bnd (L.bnd (L.nth g.d4.l o) (fun _ => some (L.subI .i64 n 1))) (fun p => some (g.1, g.2.1, g.d2, g.d3, ⟨g.d4.nil, L.takeL (L.setL g.d4.l o p) k⟩, ())))))) (some (g.1, g.2.1, g.d2, g.d3, ⟨g.d4.nil, L.takeL g.d4.l k⟩, ()))) (fun q => some (Sum.inl (q.1, q.2.1, q.d2, q.d3, q.d4, ()))))) (some (Sum.inr (Sum.inl (g.1, g.2.1, g.d2, L.addI .i64 g.d3 1, g.d4, ())))))) (L.maxI d.1 (L.addI .i64 (L.lenI d.d4.l) 1), d.2.1, d.d2, d.d3, ⟨L.andB d.d4.nil (L.isE ([e.2.2.2] : Y3)), L.app d.d4.l ([e.2.2.2] : Y3)⟩, ())))) (some (Sum.inr (d.1, ())))) (0, x.1, L.lenI x.1.l, 0, ⟨true, ([] : Y3)⟩, ())))
noncomputable def f_ds := b_ds lf f_dx
def b_dq (L : Lf) (x : Y6) : Option Y4 :=
 L.bnd (L.cnd (L.leI 21 x.1) (some (L.leI x.1 24)) (some false)) (fun b => some (b, ()))
noncomputable def f_dq := b_dq lf
def b_dc (L : Lf) (c0 : Yf4) (x : Y44) : Option Y4 :=
 L.bnd (c0 ((2, x.1, 0, 0), ())) (fun b => some (b.1, ()))
noncomputable def f_dc := b_dc lf f_aj
def b_dm (_L : Lf) (x : Y6) : Option Y6 :=
 some (x.1, ())
noncomputable def f_dm := b_dm lf
def b_dj (L : Lf) (c0 : Yf7) (x : Y6) : Option (Bool × Bool × Int × Int × Int × Int × Bool × Unit) :=
 L.bnd (L.cnd (L.eqI x.1 1) (some (x.1, L.eqI x.1 1, false, false, false, ())) (some (x.1, L.eqI x.1 23, false, false, false, ()))) (fun b => L.cnd b.2.1 (L.bnd (c0 (0, ())) (fun d => some (true, false, 2, 0, 0, d.1, true, ()))) (L.cnd (L.eqI b.1 2) (L.bnd (c0 (0, ())) (fun e => some (false, true, 2, 0, 0, e.1, true, ()))) (L.bnd (L.cnd (L.eqI b.1 3) (some (b.1, L.eqI b.1 3, b.d2, b.d3, b.d4, ())) (some (b.1, L.eqI b.1 22, b.d2, b.d3, b.d4, ()))) (fun g => L.cnd g.2.1 (L.bnd (c0 (0, ())) (fun h => some (false, false, 0, 0, 0, h.1, true, ()))) (L.cnd (L.eqI g.1 4) (L.bnd (c0 (0, ())) (fun i => some (false, false, 1, 0, 0, i.1, true, ()))) (L.cnd (L.eqI g.1 5) (L.bnd (c0 (1, ())) (fun j => some (false, false, 0, 0, 0, j.1, true, ()))) (L.bnd (L.cnd (L.eqI g.1 7) (some (g.1, L.eqI g.1 7, g.d2, g.d3, g.d4, ())) (L.bnd (L.cnd (L.eqI g.1 8) (some (g.1, L.eqI g.1 8, g.d2, g.d3, g.d4, ())) (some (g.1, L.eqI g.1 12, g.d2, g.d3, g.d4, ()))) (fun k => some (k.1, k.2.1, k.d2, k.d3, k.d4, ())))) (fun m => L.cnd m.2.1 (L.bnd (c0 (2, ())) (fun n => some (false, false, 0, 0, 0, n.1, true, ()))) (L.cnd (L.eqI m.1 6) (L.bnd (c0 (2, ())) (fun o => some (false, false, 2, 0, 0, o.1, true, ()))) (L.cnd (L.eqI m.1 9) (L.bnd (c0 (3, ())) (fun p => some (false, false, 2, 0, 0, p.1, true, ()))) (L.cnd (L.eqI m.1 10) (some (false, false, 2, 0, 1, 0, true, ())) (L.cnd (L.eqI m.1 11) (L.bnd (c0 (1, ())) (fun q => some (false, false, 2, 0, 0, q.1, true, ()))) (L.cnd (L.eqI m.1 21) (L.bnd (c0 (0, ())) (fun r => some (false, false, 2, 0, 0, r.1, true, ()))) (L.cnd (L.eqI m.1 24) (some (false, false, 1, 0, 2, 0, true, ())) (some (false, false, 2, 0, 3, 0, false, ()))))))))))))))))
noncomputable def f_dj := b_dj lf f_dm
def b_dd (L : Lf) (c0 : Yf4) (x : Y44) : Option Y4 :=
 L.bnd (c0 ((1, x.1, 0, 0), ())) (fun b => L.bnd (L.cnd b.1 (some true) (L.bnd (c0 ((5, x.1, 0, 0), ())) (fun d => some d.1))) (fun e => some (e, ())))
noncomputable def f_dd := b_dd lf f_aj
def b_dk (L : Lf) (x : Y6) : Option Y4 :=
 L.bnd (L.cnd (L.leI 3 x.1) (L.bnd (L.remI x.1 2) (fun b => some (L.eqI b 1))) (some false)) (fun d => some (d, ()))
noncomputable def f_dk := b_dk lf
def b_dl (_L : Lf) (_x : Y6) : Option Y4 :=
 some (true, ())
noncomputable def f_dl := b_dl lf
def b_dn (L : Lf) (x : Y45) : Option Y4 :=
 some (L.eqI x.1 x.2.1, ())
noncomputable def f_dn := b_dn lf
def b_dp (L : Lf) (c0 : Yf5) (c1 : Yf7) (c2 : Yf3) (c3 : Y6 → Option (Bool × Bool × Int × Int × Int × Int × Bool × Unit)) (c4 : Yf3) (c5 : Yf5) (c6 : Yf5) (c7 : Y45 → Option Y4) (x : Y37) : Option Y6 :=
 L.bnd (L.at? x.1.l x.2.1) (fun b => L.bnd (c3 (b.1, ())) (fun d => L.bnd (L.cnd (L.notB d.d6) (some true) (L.bnd (c0 (b.1, ())) (fun e => some (L.notB (L.eqB e.1 x.d2))))) (fun g => L.bnd (L.cnd g (some true) (L.bnd (L.cnd (L.eqI d.d4 0) (L.bnd (c7 (b.2.2.2, d.d5, ())) (fun h => some h.1)) (L.cnd (L.eqI d.d4 1) (L.bnd (c5 (b.2.2.2, ())) (fun i => some i.1)) (L.cnd (L.eqI d.d4 2) (L.bnd (c6 (b.2.2.2, ())) (fun j => some j.1)) none))) (fun k => some (L.notB k)))) (fun m => L.cnd m (some (61, ())) (L.cnd d.1 (L.bnd (c1 (b.d2, ())) (fun n => L.bnd (L.cnd (L.notB (L.eqI n.1 b.d2)) (some (x.1, x.2.1, L.notB (L.eqI n.1 b.d2), b.1, b.2.1, b.d2, b.2.2.2, d.1, d.2.1, d.d2, d.d3, d.d4, d.d5, d.d6, ())) (L.bnd (L.cnd (L.notB d.1) (some (L.notB (L.eqI b.d2 0))) (some false)) (fun o => some (x.1, x.2.1, o, b.1, b.2.1, b.d2, b.2.2.2, d.1, d.2.1, d.d2, d.d3, d.d4, d.d5, d.d6, ())))) (fun p => L.cnd p.d2 (some (61, ())) (L.bnd (L.cnd p.d8 (some (L.ltI 200 (L.lenI p.d4))) (some false)) (fun q => L.bnd (L.cnd q (some (p.1, p.2.1, q, p.d3, p.d4, p.d5, p.d6, p.d7, p.d8, p.d9, p.d10, p.d11, p.d12, p.d13, ())) (L.bnd (L.cnd (L.notB p.d8) (some (L.eqI p.d9 2)) (some false)) (fun r => L.bnd (L.cnd r (some (L.notB (L.eqS p.d4 ([] : Y3)))) (some false)) (fun s => some (p.1, p.2.1, s, p.d3, p.d4, p.d5, p.d6, p.d7, p.d8, p.d9, p.d10, p.d11, p.d12, p.d13, ()))))) (fun t => L.cnd t.d2 (some (61, ())) (L.bnd (L.cnd (L.eqI t.d3 8) (L.bnd (L.at? t.1.l (L.addI .i64 t.2.1 1)) (fun u => some (L.notB (L.eqI u.1 5)))) (some false)) (fun v => L.cnd v (some (61, ())) (L.bnd (L.cnd (L.notB (L.eqI t.d9 2)) (L.bnd (L.cnd (L.eqI t.d9 0) (L.bnd (c4 (t.d4, ())) (fun w => some w.1)) (L.cnd (L.eqI t.d9 1) (L.bnd (c2 (t.d4, ())) (fun y => some y.1)) none)) (fun z => some (L.notB z))) (some false)) (fun bb => L.cnd bb (some (62, ())) (some (0, ())))))))))))) (L.bnd (L.cnd false (some (x.1, x.2.1, false, b.1, b.2.1, b.d2, b.2.2.2, d.1, d.2.1, d.d2, d.d3, d.d4, d.d5, d.d6, ())) (L.bnd (L.cnd (L.notB d.1) (some (L.notB (L.eqI b.d2 0))) (some false)) (fun bd => some (x.1, x.2.1, bd, b.1, b.2.1, b.d2, b.2.2.2, d.1, d.2.1, d.d2, d.d3, d.d4, d.d5, d.d6, ())))) (fun be => L.cnd be.d2 (some (61, ())) (L.bnd (L.cnd be.d8 (some (L.ltI 200 (L.lenI be.d4))) (some false)) (fun bg => L.bnd (L.cnd bg (some (be.1, be.2.1, bg, be.d3, be.d4, be.d5, be.d6, be.d7, be.d8, be.d9, be.d10, be.d11, be.d12, be.d13, ())) (L.bnd (L.cnd (L.notB be.d8) (some (L.eqI be.d9 2)) (some false)) (fun bh => L.bnd (L.cnd bh (some (L.notB (L.eqS be.d4 ([] : Y3)))) (some false)) (fun bi => some (be.1, be.2.1, bi, be.d3, be.d4, be.d5, be.d6, be.d7, be.d8, be.d9, be.d10, be.d11, be.d12, be.d13, ()))))) (fun bj => L.cnd bj.d2 (some (61, ())) (L.bnd (L.cnd (L.eqI bj.d3 8) (L.bnd (L.at? bj.1.l (L.addI .i64 bj.2.1 1)) (fun bk => some (L.notB (L.eqI bk.1 5)))) (some false)) (fun bm => L.cnd bm (some (61, ())) (L.bnd (L.cnd (L.notB (L.eqI bj.d9 2)) (L.bnd (L.cnd (L.eqI bj.d9 0) (L.bnd (c4 (bj.d4, ())) (fun bn => some bn.1)) (L.cnd (L.eqI bj.d9 1) (L.bnd (c2 (bj.d4, ())) (fun bo => some bo.1)) none)) (fun bp => some (L.notB bp))) (some false)) (fun bq => L.cnd bq (some (62, ())) (some (0, ()))))))))))))))))
noncomputable def f_dp := b_dp lf f_dq f_e4 f_dc f_dj f_dd f_dk f_dl f_dn
def b_dg (L : Lf) (c0 : Yf11) (x : Int × Bool × (Sl Y0) × Unit) : Option Y6 :=
 L.bnd (c0 (x.d2, x.1, x.2.1, ())) (fun b => some (b.1, ()))
noncomputable def f_dg := b_dg lf f_dp
def b_dr (L : Lf) (c0 : Yf17) (c1 : (Int × Bool × (Sl Y0) × Unit) → Option Y6) (x : Y41) : Option Y45 :=
 L.bnd (c1 (x.2.1, x.d2, x.d3, ())) (fun b => L.cnd (L.notB (L.eqI b.1 0)) (some (0, b.1, ())) (L.bnd (L.at? x.1.l x.2.1) (fun d => L.loopR (fun (e : (Sl Y0) × Int × Bool × (Sl Y0) × Int × Int × Int × Unit) => L.cnd (L.ltI e.d6 e.d5) (L.bnd (L.cnd e.d2 (some true) (L.bnd (L.at? e.1.l e.2.1) (fun g => L.cnd (L.eqI g.1 10) (L.bnd (L.remI e.d6 2) (fun h => some (L.eqI h 1))) (some false)))) (fun i => L.bnd (c0 (e.1, e.d4, i, e.d3, ())) (fun j => L.cnd (L.notB (L.eqI j.2.1 0)) (some (Sum.inr (0, j.2.1, ()))) (some (Sum.inl (e.1, e.2.1, e.d2, e.d3, j.1, e.d5, L.addI .i64 e.d6 1, ())))))) (some (Sum.inr (e.d4, 0, ())))) (x.1, x.2.1, x.d2, x.d3, L.addI .i64 x.2.1 1, d.2.2.2, 0, ()))))
noncomputable def g_dr (self : Yf17) (x : Y41) : Option Y45 := b_dr lf self f_dg x
noncomputable def f_dr := recR g_dr
def b_dw (L : Lf) (c0 : Yf2) (x : Y12) : Option Y12 :=
 L.bnd (c0 (x.1, x.2.1, ())) (fun b => L.cnd (L.ltI b.1 0) (some (⟨true, ([] : List Y0)⟩, 20, ())) (L.bnd (L.mkN (L.subI .i64 b.1 x.2.1) (L.subI .i64 b.1 x.2.1)) (fun d => L.bnd (L.cutL x.1.l x.2.1 b.1) (fun e => some (⟨false, L.ovl (L.rep d (0, ([] : Y3), 0, 0)) e⟩, 0, ())))))
noncomputable def f_dw := b_dw lf f_dt
def b_do (L : Lf) (x : Y9) : Option Y14 :=
 L.loopR (fun (b : (Sl Y0) × Int × Int × (Sl Y3) × Unit) => L.cnd (L.ltI b.d2 b.2.1) (L.bnd (L.at? b.1.l b.d2) (fun d => L.bnd (L.cnd (L.eqI d.1 22) (L.bnd (L.fit (L.sumI (L.lenI b.d3.l) (L.lenI ([d.2.1] : List Y3)))) (fun _ => some (b.1, b.2.1, b.d2, ⟨L.andB b.d3.nil (L.isE ([d.2.1] : List Y3)), L.app b.d3.l ([d.2.1] : List Y3)⟩, ()))) (some (b.1, b.2.1, b.d2, b.d3, ()))) (fun e => some (Sum.inl (e.1, e.2.1, L.addI .i64 e.d2 1, e.d3, ()))))) (some (Sum.inr (b.d3, ())))) (x.1, L.lenI x.1.l, 0, ⟨true, ([] : List Y3)⟩, ())
noncomputable def f_do := b_do lf
def f_d9 (x : Y14) : Option Y14 := bif x.1.l.all qae && decide (x.1.l.length < 4611686018427387904) then some ((⟨x.1.nil, x.1.l.mergeSort fun a b => !strLt b a⟩ : Sl Y3), ()) else none
def b_c8 (L : Lf) (x : Y14) : Option Y14 :=
 L.cnd (L.ltI (L.lenI x.1.l) 2) (some (x.1, ())) (L.loopR (fun (b : Int × (Sl Y3) × Unit) => L.cnd (L.ltI b.1 (L.lenI b.2.1.l)) (L.bnd (L.okAt b.2.1.l b.1) (fun d => L.bnd (L.nth b.2.1.l d) (fun e => L.bnd (L.okAt b.2.1.l (L.subI .i64 b.1 1)) (fun g => L.bnd (L.nth b.2.1.l g) (fun h => L.cnd (L.eqS e h) (L.bnd (L.cutN (L.lenI b.2.1.l) b.1) (fun _ => L.loopR (fun (i : Int × Int × Int × (Sl Y3) × Unit) => L.cnd (L.ltI i.d2 (L.lenI (L.dropL i.d3.l i.2.1))) (L.bnd (L.cnd (L.leI 0 i.d2) (L.okAt i.d3.l (L.sumI i.2.1 i.d2)) none) (fun j => L.bnd (L.nth i.d3.l j) (fun k => L.bnd (L.cnd (L.leI 0 (L.subI .i64 i.d2 1)) (L.okAt i.d3.l (L.sumI i.2.1 (L.subI .i64 i.d2 1))) none) (fun m => L.bnd (L.nth i.d3.l m) (fun n => L.bnd (L.cnd (L.notB (L.eqS k n)) (L.bnd (L.cnd (L.leI 0 i.d2) (L.okAt i.d3.l (L.sumI i.2.1 i.d2)) none) (fun o => L.bnd (L.nth i.d3.l o) (fun p => L.bnd (L.okAt i.d3.l i.1) (fun q => L.bnd (L.bnd (L.nth i.d3.l q) (fun _ => some p)) (fun r => some (L.addI .i64 i.1 1, i.2.1, i.d2, ⟨i.d3.nil, L.setL i.d3.l q r⟩, ())))))) (some (i.1, i.2.1, i.d2, i.d3, ()))) (fun s => some (Sum.inl (s.1, s.2.1, L.addI .i64 s.d2 1, s.d3, ())))))))) (L.bnd (L.cutN (L.lenI i.d3.l) i.1) (fun _ => L.bnd (L.cutN (L.lenI (L.zerL i.d3.l i.1 ([] : Y3))) i.1) (fun t => some (Sum.inr (Sum.inr (⟨i.d3.nil, L.takeL (L.zerL i.d3.l i.1 ([] : Y3)) t⟩, ()))))))) (b.1, b.1, 1, b.2.1, ()))) (some (Sum.inl (L.addI .i64 b.1 1, b.2.1, ())))))))) (some (Sum.inr (b.2.1, ())))) (1, x.1, ()))
noncomputable def f_c8 := b_c8 lf
def b_di (L : Lf) (c0 : Y9 → Option Y14) (x : Y9) : Option Y6 :=
 L.bnd (c0 (x.1, ())) (fun b => some (L.lenI b.1.l, ()))
noncomputable def f_di := b_di lf f_do
def b_dh (L : Lf) (c0 : Y12 → Option Y12) (c1 : Y9 → Option Y14) (c2 : Y14 → Option Y14) (c3 : Y14 → Option Y14) (c4 : Yf8) (x : Int × (Sl Y0) × Unit) : Option Y4 :=
 L.bnd (c0 (x.2.1, x.1, ())) (fun b => L.bnd (c1 (b.1, ())) (fun d => L.bnd (c2 (d.1, ())) (fun e => L.bnd (c3 (e.1, ())) (fun g => L.bnd (c4 (b.1, ())) (fun h => some (L.ltI (L.lenI g.1.l) h.1, ()))))))
noncomputable def f_dh := b_dh lf f_dw f_do f_d9 f_c8 f_di
def b_df (L : Lf) (c0 : Yf1) (c1 : Yf2) (c2 : Yf8) (c3 : Yf17) (c4 : (Int × (Sl Y0) × Unit) → Option Y4) (c5 : Yf5) (x : (Sl Y0) × Bool × Unit) : Option Y6 :=
 L.bnd (L.cnd (L.ltI 4000 (L.lenI x.1.l)) (some true) (L.bnd (c0 (x.1, ())) (fun b => some (L.notB b.1)))) (fun d => L.bnd (L.cnd d (some true) (L.bnd (c2 (x.1, ())) (fun e => some (L.ltI 100 e.1)))) (fun g => L.cnd g (some (60, ())) (L.bnd (c3 (x.1, 0, x.2.1, x.1, ())) (fun h => L.cnd (L.notB (L.eqI h.2.1 0)) (some (h.2.1, ())) (L.loopR (fun (i : Int × (Sl Y0) × Unit) => L.cnd (L.ltI i.1 (L.lenI i.2.1.l)) (L.bnd (L.bnd (L.at? i.2.1.l i.1) (fun j => L.bnd (c5 (j.1, ())) (fun k => L.cnd (L.notB k.1) (some (Sum.inl (i.1, i.2.1, ()))) (L.bnd (c4 (i.1, i.2.1, ())) (fun m => L.cnd m.1 (some (Sum.inr (Sum.inr (63, ())))) (L.bnd (c1 (i.2.1, i.1, ())) (fun n => some (Sum.inl (L.subI .i64 n.1 1, i.2.1, ()))))))))) (L.sumE (fun o => some (Sum.inl (L.addI .i64 o.1 1, o.2.1, ()))))) (some (Sum.inr (0, ())))) (0, x.1, ()))))))
noncomputable def f_df := b_df lf f_dx f_dt f_ds f_dr f_dh f_dq
def b_de (L : Lf) (c0 : ((Sl Y0) × Bool × Unit) → Option Y6) (x : Y9) : Option Y6 :=
 L.bnd (c0 (x.1, true, ())) (fun b => some (b.1, ()))
noncomputable def f_de := b_de lf f_df
def q7p (L : Lf) (c0 : Yf0) (x : (Sl Y0) × (Sl Y0) × (Sl Y1) × Unit) : Option Y4 :=
 L.bnd (c0 (x.d2, x.1, x.2.1, ())) (fun b => some (b.1, ()))
noncomputable def q3c (self : Yf0) (x : (Sl Y0) × (Sl Y0) × (Sl Y1) × Unit) : Option Y4 := q7p lf self x
def b_bl (L : Lf) (c0 : Yf10) (c1 : Yf2) (x : Y9) : Option Y21 :=
 L.bnd (c0 (x.1, 0, ())) (fun b => L.loopR (fun (d : (Sl Y0) × (Sl Int) × Int × Int × Y2 × Unit) => L.cnd (L.ltI d.d3 d.d2) (L.bnd (L.at? d.2.1.l d.d3) (fun e => L.bnd (c1 (d.1, e, ())) (fun g => L.bnd (L.cutL d.1.l e g.1) (fun h => L.bnd (L.fit (L.sumI (L.lenI d.d4.l) (L.lenI ([⟨d.1.nil, h⟩] : List (Sl Y0))))) (fun _ => some (Sum.inl (d.1, d.2.1, d.d2, L.addI .i64 d.d3 1, ⟨L.andB d.d4.nil (L.isE ([⟨d.1.nil, h⟩] : List (Sl Y0))), L.app d.d4.l ([⟨d.1.nil, h⟩] : List (Sl Y0))⟩, ()))))))) (some (Sum.inr (d.d4, ())))) (x.1, b.1, L.lenI b.1.l, 0, ⟨true, ([] : List (Sl Y0))⟩, ()))
noncomputable def f_bl := b_bl lf f_du f_dt
def q9g (L : Lf) (c0 : Yf9) (c1 : ((Sl Y0) × (Sl Y0) × (Sl Y1) × Unit) → Option Y4) (c2 : Yf18) (x : (Sl Y1) × (Sl Y0) × (Sl Y0) × (Sl Y1) × Unit) : Option Y4 :=
 L.bnd (L.at? x.d2.l 0) (fun b => L.bnd (c0 (x.1, x.2.1, b.2.1, ())) (fun d => L.bnd (c2 (x.d2, ())) (fun e => L.bnd (L.cnd (L.notB d.2.1) (some true) (some (L.notB (L.eqI (L.lenI d.1.l) (L.lenI e.1.l))))) (fun g => L.cnd g (some (false, ())) (L.loopR (fun (h : (Sl Y1) × Y2 × Y2 × Int × Int × Unit) => L.cnd (L.ltI h.d4 h.d3) (L.bnd (L.at? h.d2.l h.d4) (fun i => L.bnd (L.at? h.2.1.l h.d4) (fun j => L.bnd (c1 (j, i, h.1, ())) (fun k => L.cnd (L.notB k.1) (some (Sum.inr (false, ()))) (some (Sum.inl (h.1, h.2.1, h.d2, h.d3, L.addI .i64 h.d4 1, ()))))))) (some (Sum.inr (true, ())))) (x.d3, d.1, e.1, L.lenI e.1.l, 0, ()))))))
noncomputable def q4p (self : Yf0) (x : (Sl Y1) × (Sl Y0) × (Sl Y0) × (Sl Y1) × Unit) : Option Y4 := q9g lf f_b4 (q3c self) f_bl x
def b_bk (L : Lf) (c0 : ((Sl Y1) × (Sl Y0) × (Sl Y0) × (Sl Y1) × Unit) → Option Y4) (x : Y10) : Option Y4 :=
 L.bnd (L.at? x.d2.l 0) (fun b => L.cnd (L.eqI b.1 23) (L.bnd (L.at? x.2.1.l 0) (fun d => some (L.eqS d.2.1 ([105, 110, 116] : Y3), ()))) (L.cnd (L.eqI b.1 24) (L.bnd (c0 (x.1, x.2.1, x.d2, x.1, ())) (fun e => some (e.1, ()))) (some (true, ()))))
noncomputable def g_bk (self : Yf0) (x : Y10) : Option Y4 := b_bk lf (q4p self) x
noncomputable def f_bk := recR g_bk
def b_av (L : Lf) (c0 : Yf14) (c1 : Yf8) (c2 : Yf8) (c3 : Yf0) (x : Y10) : Option Y6 :=
 L.bnd (c0 (x.1, ())) (fun b => L.bnd (L.cnd (L.notB (L.eqI b.1 0)) (some true) (L.bnd (c1 (x.2.1, ())) (fun d => some (L.notB (L.eqI d.1 0))))) (fun e => L.bnd (L.cnd e (some true) (L.bnd (c2 (x.d2, ())) (fun g => some (L.notB (L.eqI g.1 0))))) (fun h => L.bnd (L.cnd h (some true) (L.bnd (c3 (x.1, x.2.1, x.d2, ())) (fun i => some (L.notB i.1)))) (fun j => L.cnd j (some (120, ())) (some (0, ()))))))
noncomputable def f_av := b_av lf f_a0 f_e0 f_de f_bk
def b_bj (L : Lf) (c0 : Yf7) (c1 : Yf3) (x : Y53) : Option Y4 :=
 L.cnd (L.eqI x.1.1 51) (L.cnd (L.eqS x.1.2.1 ([] : Y3)) (L.cnd (L.eqI x.1.2.2.2 0) (L.bnd (c0 (x.1.d2, ())) (fun b => some (L.eqI b.1 x.1.d2, ()))) (some (false, ()))) (some (false, ()))) (L.cnd (L.eqI x.1.1 52) (L.bnd (L.cnd (L.eqI x.1.d2 0) (some (L.eqI x.1.2.2.2 0)) (some false)) (fun d => L.bnd (L.cnd d (some (L.leI (L.lenI x.1.2.1) 200)) (some false)) (fun e => some (e, ())))) (L.cnd (L.eqI x.1.1 53) (L.bnd (L.cnd (L.eqI x.1.d2 0) (L.bnd (c1 (x.1.2.1, ())) (fun g => some g.1)) (some false)) (fun h => some (h, ()))) (L.cnd (L.eqI x.1.1 54) (some (L.andB (L.eqI x.1.1 54) (L.andB (L.eqS x.1.2.1 ([] : Y3)) (L.andB (L.eqI x.1.d2 0) (L.eqI x.1.2.2.2 0))), ())) (some (false, ())))))
noncomputable def f_bj := b_bj lf f_e4 f_dc
def b_bs (L : Lf) (c0 : Yf4) (x : Y53) : Option Y4 :=
 L.bnd (c0 ((x.1.1, x.1.2.1, x.1.d2, x.1.2.2.2), ())) (fun b => some (L.notB b.1, ()))
noncomputable def f_bs := b_bs lf f_bj
def b_ct (L : Lf) (c0 : Yf4) (x : Y9) : Option Y6 :=
 L.loopR (fun (b : (Sl Y0) × Int × Int × Unit) => L.cnd (L.ltI b.d2 b.2.1) (L.bnd (L.at? b.1.l b.d2) (fun d => L.bnd (c0 (d, ())) (fun e => L.cnd e.1 (some (Sum.inr (b.d2, ()))) (some (Sum.inl (b.1, b.2.1, L.addI .i64 b.d2 1, ())))))) (some (Sum.inr ((-1), ())))) (x.1, L.lenI x.1.l, 0, ())
noncomputable def f_ct := b_ct lf f_bs
def b_cj (L : Lf) (c0 : Yf8) (x : Y9) : Option Y4 :=
 L.bnd (c0 (x.1, ())) (fun b => some (L.leI 0 b.1, ()))
noncomputable def f_cj := b_cj lf f_ct
def b_br (L : Lf) (c0 : Yf1) (c1 : Yf1) (x : Y9) : Option Y4 :=
 L.bnd (L.cnd (L.leI (L.lenI x.1.l) 4000) (L.bnd (c1 (x.1, ())) (fun b => some b.1)) (some false)) (fun d => L.cnd d (L.bnd (c0 (x.1, ())) (fun e => some (L.notB e.1, ()))) (some (false, ())))
noncomputable def f_br := b_br lf f_cj f_dx
def q6e (L : Lf) (c0 : Yf0) (x : (Sl Y0) × (Sl Y0) × (Sl Y1) × Unit) : Option Y4 :=
 L.bnd (c0 (x.d2, x.1, x.2.1, ())) (fun b => some (b.1, ()))
noncomputable def q2r (self : Yf0) (x : (Sl Y0) × (Sl Y0) × (Sl Y1) × Unit) : Option Y4 := q6e lf self x
def q51 (L : Lf) (c0 : Yf9) (c1 : ((Sl Y0) × (Sl Y0) × (Sl Y1) × Unit) → Option Y4) (c2 : Yf18) (x : (Sl Y1) × (Sl Y0) × (Sl Y0) × (Sl Y1) × Unit) : Option Y4 :=
 L.bnd (L.at? x.d2.l 0) (fun b => L.bnd (c0 (x.1, x.2.1, b.2.1, ())) (fun d => L.bnd (c2 (x.d2, ())) (fun e => L.bnd (L.cnd (L.notB d.2.1) (some true) (some (L.notB (L.eqI (L.lenI d.1.l) (L.lenI e.1.l))))) (fun g => L.cnd g (some (false, ())) (L.loopR (fun (h : (Sl Y1) × Y2 × Y2 × Int × Int × Unit) => L.cnd (L.ltI h.d4 h.d3) (L.bnd (L.at? h.d2.l h.d4) (fun i => L.bnd (L.at? h.2.1.l h.d4) (fun j => L.bnd (c1 (j, i, h.1, ())) (fun k => L.cnd (L.notB k.1) (some (Sum.inr (false, ()))) (some (Sum.inl (h.1, h.2.1, h.d2, h.d3, L.addI .i64 h.d4 1, ()))))))) (some (Sum.inr (true, ())))) (x.d3, d.1, e.1, L.lenI e.1.l, 0, ()))))))
noncomputable def q2a (self : Yf0) (x : (Sl Y1) × (Sl Y0) × (Sl Y0) × (Sl Y1) × Unit) : Option Y4 := q51 lf f_b4 (q2r self) f_bl x
def b_bh (L : Lf) (c0 : ((Sl Y1) × (Sl Y0) × (Sl Y0) × (Sl Y1) × Unit) → Option Y4) (x : Y10) : Option Y4 :=
 L.bnd (L.at? x.d2.l 0) (fun b => L.cnd (L.eqI b.1 51) (L.bnd (L.at? x.2.1.l 0) (fun d => some (L.eqS d.2.1 ([105, 110, 116] : Y3), ()))) (L.cnd (L.eqI b.1 52) (L.bnd (L.at? x.2.1.l 0) (fun e => some (L.eqS e.2.1 ([116, 101, 120, 116] : Y3), ()))) (L.cnd (L.eqI b.1 54) (L.bnd (L.at? x.2.1.l 0) (fun g => L.bnd (L.cnd (L.eqI g.1 31) (some true) (L.bnd (L.at? x.2.1.l 0) (fun h => some (L.eqS h.2.1 ([45, 62] : Y3))))) (fun i => L.bnd (L.cnd i (some true) (L.bnd (L.at? x.2.1.l 0) (fun j => some (L.eqS j.2.1 ([114, 101, 102] : Y3))))) (fun k => some (k, ()))))) (L.bnd (c0 (x.1, x.2.1, x.d2, x.1, ())) (fun m => some (m.1, ()))))))
noncomputable def g_bh (self : Yf0) (x : Y10) : Option Y4 := b_bh lf (q2a self) x
noncomputable def f_bh := recR g_bh
def b_ay (L : Lf) (c0 : Yf14) (c1 : Yf8) (c2 : Yf1) (c3 : Yf0) (x : Y10) : Option Y4 :=
 L.bnd (c0 (x.1, ())) (fun b => L.bnd (L.cnd (L.eqI b.1 0) (L.bnd (c1 (x.2.1, ())) (fun d => some (L.eqI d.1 0))) (some false)) (fun e => L.bnd (L.cnd e (L.bnd (c2 (x.d2, ())) (fun g => some g.1)) (some false)) (fun h => L.bnd (L.cnd h (L.bnd (c3 (x.1, x.2.1, x.d2, ())) (fun i => some i.1)) (some false)) (fun j => some (j, ())))))
noncomputable def f_ay := b_ay lf f_a0 f_e0 f_br f_bh
def b_c7 (L : Lf) (x : Y9) : Option Y9 :=
 L.cnd x.1.nil (some (⟨true, ([] : List Y0)⟩, ())) (L.bnd (L.fit (L.sumI (L.lenI ([] : List Y0)) (L.lenI x.1.l))) (fun _ => some (⟨L.andB false (L.isE x.1.l), L.app ([] : List Y0) x.1.l⟩, ())))
noncomputable def f_c7 := b_c7 lf
def b_b0 (L : Lf) (c0 : Yf15) (x : Y3 × (Sl Y0) × Y8 × Unit) : Option (Y8 × Unit) :=
 L.bnd (c0 (x.2.1, ())) (fun b => L.bnd (L.fit (L.sumI (L.lenI x.d2.l) (L.lenI ([(x.1, b.1)] : List Y17)))) (fun _ => some (⟨L.andB x.d2.nil (L.isE ([(x.1, b.1)] : List Y17)), L.app x.d2.l ([(x.1, b.1)] : List Y17)⟩, ())))
noncomputable def f_b0 := b_b0 lf f_c7
def b_bi (L : Lf) (c0 : (Y3 × (Sl Y0) × Y8 × Unit) → Option (Y8 × Unit)) (c1 : Yf12) (c2 : Yf18) (x : Y35) : Option Y36 :=
 L.bnd (L.at? x.1.l 0) (fun b => L.cnd (L.eqI b.1 21) (some (true, x.d2, ())) (L.cnd (L.eqI b.1 22) (L.bnd (c0 (b.2.1, x.2.1, x.d2, ())) (fun d => some (true, d.1, ()))) (L.cnd (L.eqI b.1 23) (L.bnd (L.at? x.2.1.l 0) (fun e => L.cnd (L.eqI e.1 51) (L.bnd (L.at? x.2.1.l 0) (fun g => some (L.eqI g.d2 b.d2, x.d2, ()))) (some (false, x.d2, ())))) (L.bnd (L.at? x.2.1.l 0) (fun h => L.cnd (L.notB (L.eqI h.1 53)) (L.cnd true (some (false, x.d2, ())) (L.bnd (c2 (x.2.1, ())) (fun i => L.bnd (c2 (x.1, ())) (fun j => L.loopR (fun (k : Y2 × Y2 × Int × Int × Y8 × Unit) => L.cnd (L.ltI k.d3 k.d2) (L.bnd (L.at? k.2.1.l k.d3) (fun m => L.bnd (L.at? k.1.l k.d3) (fun n => L.bnd (c1 (m, n, k.d4, ())) (fun o => L.cnd (L.notB o.1) (some (Sum.inr (false, o.2.1, ()))) (some (Sum.inl (k.1, k.2.1, k.d2, L.addI .i64 k.d3 1, o.2.1, ()))))))) (some (Sum.inr (true, k.d4, ())))) (i.1, j.1, L.lenI j.1.l, 0, x.d2, ()))))) (L.bnd (L.at? x.2.1.l 0) (fun p => L.cnd (L.notB (L.eqS p.2.1 b.2.1)) (L.cnd true (some (false, x.d2, ())) (L.bnd (c2 (x.2.1, ())) (fun q => L.bnd (c2 (x.1, ())) (fun r => L.loopR (fun (s : Y2 × Y2 × Int × Int × Y8 × Unit) => L.cnd (L.ltI s.d3 s.d2) (L.bnd (L.at? s.2.1.l s.d3) (fun t => L.bnd (L.at? s.1.l s.d3) (fun u => L.bnd (c1 (t, u, s.d4, ())) (fun v => L.cnd (L.notB v.1) (some (Sum.inr (false, v.2.1, ()))) (some (Sum.inl (s.1, s.2.1, s.d2, L.addI .i64 s.d3 1, v.2.1, ()))))))) (some (Sum.inr (true, s.d4, ())))) (q.1, r.1, L.lenI r.1.l, 0, x.d2, ()))))) (L.bnd (L.at? x.2.1.l 0) (fun w => L.cnd (L.notB (L.eqI w.2.2.2 b.2.2.2)) (some (false, x.d2, ())) (L.bnd (c2 (x.2.1, ())) (fun y => L.bnd (c2 (x.1, ())) (fun z => L.loopR (fun (bb : Y2 × Y2 × Int × Int × Y8 × Unit) => L.cnd (L.ltI bb.d3 bb.d2) (L.bnd (L.at? bb.2.1.l bb.d3) (fun bd => L.bnd (L.at? bb.1.l bb.d3) (fun be => L.bnd (c1 (bd, be, bb.d4, ())) (fun bg => L.cnd (L.notB bg.1) (some (Sum.inr (false, bg.2.1, ()))) (some (Sum.inl (bb.1, bb.2.1, bb.d2, L.addI .i64 bb.d3 1, bg.2.1, ()))))))) (some (Sum.inr (true, bb.d4, ())))) (y.1, z.1, L.lenI z.1.l, 0, x.d2, ())))))))))))))
noncomputable def g_bi (self : Yf12) (x : Y35) : Option Y36 := b_bi lf f_b0 self f_bl x
noncomputable def f_bi := recR g_bi
def b_az (L : Lf) (c0 : Yf8) (c1 : Yf1) (c2 : Yf12) (x : Y29) : Option Y26 :=
 L.bnd (c0 (x.1, ())) (fun b => L.bnd (L.cnd (L.notB (L.eqI b.1 0)) (some true) (L.bnd (c1 (x.2.1, ())) (fun d => some (L.notB d.1)))) (fun e => L.cnd e (some (⟨true, ([] : List Y17)⟩, false, ())) (L.bnd (c2 (x.1, x.2.1, ⟨true, ([] : List Y17)⟩, ())) (fun g => L.cnd (L.notB g.1) (some (⟨true, ([] : List Y17)⟩, false, ())) (some (g.2.1, true, ()))))))
noncomputable def f_az := b_az lf f_de f_br f_bi
def b_ax (L : Lf) (c0 : Yf13) (x : Y29) : Option Y4 :=
 L.bnd (c0 (x.1, x.2.1, ())) (fun b => some (b.2.1, ()))
noncomputable def f_ax := b_ax lf f_az
def b_d1 (L : Lf) (c0 : Y29 → Option Y4) (x : Y2 × (Sl Y0) × Unit) : Option Y6 :=
 L.loopR (fun (b : Y2 × (Sl Y0) × Int × Int × Unit) => L.cnd (L.ltI b.d3 b.d2) (L.bnd (L.at? b.1.l b.d3) (fun d => L.bnd (c0 (d, b.2.1, ())) (fun e => L.cnd e.1 (some (Sum.inr (b.d3, ()))) (some (Sum.inl (b.1, b.2.1, b.d2, L.addI .i64 b.d3 1, ())))))) (some (Sum.inr ((-1), ())))) (x.1, x.2.1, L.lenI x.1.l, 0, ())
noncomputable def f_d1 := b_d1 lf f_ax
def b_aw (L : Lf) (c0 : (Y2 × (Sl Y0) × Unit) → Option Y6) (x : Y2 × (Sl Y0) × Unit) : Option Y6 :=
 L.bnd (c0 (x.1, x.2.1, ())) (fun b => some (b.1, ()))
noncomputable def f_aw := b_aw lf f_d1
def b_b3 (_L : Lf) (_x : Unit) : Option Y9 :=
 some (⟨false, ([(21, ([] : Y3), 0, 0)] : List Y0)⟩, ())
noncomputable def f_b3 := b_b3 lf
def b_bn (L : Lf) (c0 : Yf23) (c1 : Unit → Option Y9) (x : Y32) : Option Y6 :=
 L.bnd (c1 ()) (fun b => L.bnd (L.fit (L.sumI (L.lenI ([b.1] : List (Sl Y0))) (L.lenI x.d2.l))) (fun _ => L.loopR (fun (d : (Sl Y1) × (Sl Y0) × Int × Int × Y2 × Unit) => L.cnd (L.ltI d.d3 d.d2) (L.bnd (L.okAt d.d4.l d.d3) (fun e => L.bnd (L.nth d.d4.l e) (fun g => L.bnd (c0 (d.1, d.2.1, g, ())) (fun h => L.cnd (L.notB (L.eqI h.1 0)) (some (Sum.inr (h.1, ()))) (some (Sum.inl (d.1, d.2.1, d.d2, L.addI .i64 d.d3 1, d.d4, ()))))))) (some (Sum.inr (0, ())))) (x.1, x.2.1, L.lenI (L.app ([b.1] : List (Sl Y0)) x.d2.l), 0, ⟨L.andB false (L.isE x.d2.l), L.app ([b.1] : List (Sl Y0)) x.d2.l⟩, ())))
noncomputable def f_bn := b_bn lf f_av f_b3
def b_ba (L : Lf) (x : Y2 × Int × Y3 × Int × Unit) : Option Y4 :=
 L.bnd (L.at? x.1.l 0) (fun b => L.bnd (L.at? b.l 0) (fun d => L.bnd (L.cnd (L.eqI d.1 x.2.1) (some (L.eqS d.2.1 x.d2)) (some false)) (fun e => L.bnd (L.cnd e (some (L.eqI d.d2 x.d3)) (some false)) (fun g => some (g, ())))))
noncomputable def f_ba := b_ba lf
def b_cw (L : Lf) (c0 : (Y2 × Int × Y3 × Int × Unit) → Option Y4) (x : (Sl Y2) × Int × Y3 × Int × Unit) : Option Y6 :=
 L.loopR (fun (b : (Sl Y2) × Int × Y3 × Int × Int × Int × Unit) => L.cnd (L.ltI b.d5 b.d4) (L.bnd (L.at? b.1.l b.d5) (fun d => L.bnd (c0 (d, b.2.1, b.d2, b.d3, ())) (fun e => L.cnd e.1 (some (Sum.inr (b.d5, ()))) (some (Sum.inl (b.1, b.2.1, b.d2, b.d3, b.d4, L.addI .i64 b.d5 1, ())))))) (some (Sum.inr ((-1), ())))) (x.1, x.2.1, x.d2, x.d3, L.lenI x.1.l, 0, ())
noncomputable def f_cw := b_cw lf f_ba
def b_cl (L : Lf) (c0 : ((Sl Y2) × Int × Y3 × Int × Unit) → Option Y6) (x : (Sl Y2) × Int × Y3 × Int × Unit) : Option Y4 :=
 L.bnd (c0 (x.1, x.2.1, x.d2, x.d3, ())) (fun b => some (L.leI 0 b.1, ()))
noncomputable def f_cl := b_cl lf f_cw
def b_b9 (L : Lf) (c0 : ((Sl Y2) × Int × Y3 × Int × Unit) → Option Y4) (x : Int × Y3 × Int × (Sl Y2) × Unit) : Option Y30 :=
 L.bnd (c0 (x.d3, x.1, x.2.1, x.d2, ())) (fun b => some (b.1, x.d3, ()))
noncomputable def f_b9 := b_b9 lf f_cl
def b_bb (L : Lf) (c0 : (Int × Y3 × Int × (Sl Y2) × Unit) → Option Y30) (x : Y5 × (Sl Y2) × Unit) : Option Y30 :=
 L.bnd (c0 (24, x.1.1, 0, x.2.1, ())) (fun b => some (L.notB b.1, b.2.1, ()))
noncomputable def f_bb := b_bb lf f_b9
def b_d7 (L : Lf) (c0 : (Y5 × (Sl Y2) × Unit) → Option Y30) (x : (Sl Y5) × (Sl Y2) × Unit) : Option Y56 :=
 L.loopR (fun (b : (Sl Y5) × Int × Int × (Sl Y2) × Unit) => L.cnd (L.ltI b.d2 b.2.1) (L.bnd (L.at? b.1.l b.d2) (fun d => L.bnd (c0 (d, b.d3, ())) (fun e => L.cnd e.1 (some (Sum.inr (b.d2, e.2.1, ()))) (some (Sum.inl (b.1, b.2.1, L.addI .i64 b.d2 1, e.2.1, ())))))) (some (Sum.inr ((-1), b.d3, ())))) (x.1, L.lenI x.1.l, 0, x.2.1, ())
noncomputable def f_d7 := b_d7 lf f_bb
def b_bt (L : Lf) (x : Y9) : Option Y4 :=
 L.bnd (L.at? x.1.l 0) (fun b => L.bnd (L.cnd (L.eqI b.1 21) (some true) (L.bnd (L.at? x.1.l 0) (fun d => some (L.eqI d.1 22)))) (fun e => some (e, ())))
noncomputable def f_bt := b_bt lf
def b_bc (L : Lf) (c0 : Yf1) (x : Y21) : Option Y4 :=
 L.bnd (L.at? x.1.l 0) (fun b => L.bnd (c0 (b, ())) (fun d => some (L.notB d.1, ())))
noncomputable def f_bc := b_bc lf f_bt
def b_cx (L : Lf) (c0 : Yf24) (x : Y20) : Option Y6 :=
 L.loopR (fun (b : (Sl Y2) × Int × Int × Unit) => L.cnd (L.ltI b.d2 b.2.1) (L.bnd (L.at? b.1.l b.d2) (fun d => L.bnd (c0 (d, ())) (fun e => L.cnd e.1 (some (Sum.inr (b.d2, ()))) (some (Sum.inl (b.1, b.2.1, L.addI .i64 b.d2 1, ())))))) (some (Sum.inr ((-1), ())))) (x.1, L.lenI x.1.l, 0, ())
noncomputable def f_cx := b_cx lf f_bc
def b_cm (L : Lf) (c0 : Y20 → Option Y6) (x : Y20) : Option Y4 :=
 L.bnd (c0 (x.1, ())) (fun b => some (L.leI 0 b.1, ()))
noncomputable def f_cm := b_cm lf f_cx
def f_co (x : Y2 × Int × Unit) : Option Y21 := bif x.1.nil && x.1.l.isEmpty && decide (0 ≤ x.2.1) && decide (x.2.1 ≤ 1000000) then some ((⟨decide (x.2.1 = 0), ([] : List (Sl Y0))⟩ : Y2), ()) else none
def b_c9 (L : Lf) (c0 : (Y2 × Int × Unit) → Option Y21) (x : Y20) : Option Y21 :=
 L.loopR (fun (b : (Sl Y2) × Int × (Sl Y2) × Int × Int × Unit) => L.cnd (L.ltI b.d4 b.d3) (L.bnd (L.at? b.d2.l b.d4) (fun d => L.bnd (L.cnd (L.ltI (L.addI .i64 b.2.1 (L.lenI d.l)) 0) none (some (b.1, L.addI .i64 b.2.1 (L.lenI d.l), b.d2, b.d3, b.d4, ()))) (fun e => some (Sum.inl (e.1, e.2.1, e.d2, e.d3, L.addI .i64 e.d4 1, ()))))) (L.bnd (c0 (⟨true, ([] : List (Sl Y0))⟩, b.2.1, ())) (fun g => L.loopR (fun (h : (Sl Y2) × Int × Int × Y2 × Unit) => L.cnd (L.ltI h.d2 h.2.1) (L.bnd (L.at? h.1.l h.d2) (fun i => L.bnd (L.fit (L.sumI (L.lenI h.d3.l) (L.lenI i.l))) (fun _ => some (Sum.inl (h.1, h.2.1, L.addI .i64 h.d2 1, ⟨L.andB h.d3.nil (L.isE i.l), L.app h.d3.l i.l⟩, ()))))) (some (Sum.inr (Sum.inr (h.d3, ()))))) (b.1, L.lenI b.1.l, 0, g.1, ())))) (x.1, 0, x.1, L.lenI x.1.l, 0, ())
noncomputable def f_c9 := b_c9 lf f_co
def b_bp (L : Lf) (c0 : Unit → Option Y9) (x : Y6) : Option Y21 :=
 L.loopR (fun (b : Int × Int × Y2 × Unit) => L.cnd (L.ltI b.2.1 b.1) (L.bnd (c0 ()) (fun d => L.bnd (L.fit (L.sumI (L.lenI b.d2.l) (L.lenI ([d.1] : List (Sl Y0))))) (fun _ => some (Sum.inl (b.1, L.addI .i64 b.2.1 1, ⟨L.andB b.d2.nil (L.isE ([d.1] : List (Sl Y0))), L.app b.d2.l ([d.1] : List (Sl Y0))⟩, ()))))) (some (Sum.inr (b.d2, ())))) (x.1, 0, ⟨true, ([] : List (Sl Y0))⟩, ())
noncomputable def f_bp := b_bp lf f_b3
def b_bq (L : Lf) (c0 : Yf18) (c1 : Yf25) (c2 : Yf1) (c3 : Y6 → Option Y21) (x : (Sl Y2) × Y0 × Int × Unit) : Option Y20 :=
 L.loopR (fun (b : Int × (Sl Y2) × Int × Int × Int × Y3 × Int × Int × (Sl Y2) × Unit) => L.cnd (L.ltI b.d3 b.d2) (L.bnd (L.at? b.2.1.l b.d3) (fun d => L.bnd (L.at? d.l 0) (fun e => L.bnd (c2 (e, ())) (fun g => L.bnd (L.cnd g.1 (L.bnd (c3 (b.1, ())) (fun h => L.bnd (L.cutL d.l 1 (L.lenI d.l)) (fun i => L.bnd (c1 (⟨false, ([h.1, ⟨d.nil, i⟩] : List Y2)⟩, ())) (fun j => L.bnd (L.fit (L.sumI (L.lenI b.d8.l) (L.lenI ([j.1] : List Y2)))) (fun _ => some (b.1, b.2.1, b.d2, b.d3, b.d4, b.d5, b.d6, b.d7, ⟨L.andB b.d8.nil (L.isE ([j.1] : List Y2)), L.app b.d8.l ([j.1] : List Y2)⟩, ())))))) (L.bnd (L.at? d.l 0) (fun k => L.bnd (L.at? k.l 0) (fun m => L.cnd (L.eqI m.1 b.d4) (L.bnd (L.at? d.l 0) (fun n => L.bnd (L.at? n.l 0) (fun o => L.cnd (L.eqS o.2.1 b.d5) (L.bnd (L.at? d.l 0) (fun p => L.bnd (L.at? p.l 0) (fun q => L.bnd (L.cnd (L.eqI q.d2 b.d6) (L.bnd (L.at? d.l 0) (fun r => L.bnd (c0 (r, ())) (fun s => L.bnd (L.cutL d.l 1 (L.lenI d.l)) (fun t => L.bnd (c1 (⟨false, ([s.1, ⟨d.nil, t⟩] : List Y2)⟩, ())) (fun u => L.bnd (L.fit (L.sumI (L.lenI b.d8.l) (L.lenI ([u.1] : List Y2)))) (fun _ => some (b.1, b.2.1, b.d2, b.d3, b.d4, b.d5, b.d6, b.d7, ⟨L.andB b.d8.nil (L.isE ([u.1] : List Y2)), L.app b.d8.l ([u.1] : List Y2)⟩, ()))))))) (some (b.1, b.2.1, b.d2, b.d3, b.d4, b.d5, b.d6, b.d7, b.d8, ()))) (fun v => some (v.1, v.2.1, v.d2, v.d3, v.d4, v.d5, v.d6, v.d7, v.d8, ()))))) (L.bnd (L.cnd false (L.bnd (L.at? d.l 0) (fun w => L.bnd (c0 (w, ())) (fun y => L.bnd (L.cutL d.l 1 (L.lenI d.l)) (fun z => L.bnd (c1 (⟨false, ([y.1, ⟨d.nil, z⟩] : List Y2)⟩, ())) (fun bb => L.bnd (L.fit (L.sumI (L.lenI b.d8.l) (L.lenI ([bb.1] : List Y2)))) (fun _ => some (b.1, b.2.1, b.d2, b.d3, b.d4, b.d5, b.d6, b.d7, ⟨L.andB b.d8.nil (L.isE ([bb.1] : List Y2)), L.app b.d8.l ([bb.1] : List Y2)⟩, ()))))))) (some (b.1, b.2.1, b.d2, b.d3, b.d4, b.d5, b.d6, b.d7, b.d8, ()))) (fun bd => some (bd.1, bd.2.1, bd.d2, bd.d3, bd.d4, bd.d5, bd.d6, bd.d7, bd.d8, ())))))) (L.bnd (L.cnd false (L.bnd (L.at? d.l 0) (fun be => L.bnd (c0 (be, ())) (fun bg => L.bnd (L.cutL d.l 1 (L.lenI d.l)) (fun bh => L.bnd (c1 (⟨false, ([bg.1, ⟨d.nil, bh⟩] : List Y2)⟩, ())) (fun bi => L.bnd (L.fit (L.sumI (L.lenI b.d8.l) (L.lenI ([bi.1] : List Y2)))) (fun _ => some (b.1, b.2.1, b.d2, b.d3, b.d4, b.d5, b.d6, b.d7, ⟨L.andB b.d8.nil (L.isE ([bi.1] : List Y2)), L.app b.d8.l ([bi.1] : List Y2)⟩, ()))))))) (some (b.1, b.2.1, b.d2, b.d3, b.d4, b.d5, b.d6, b.d7, b.d8, ()))) (fun bj => some (bj.1, bj.2.1, bj.d2, bj.d3, bj.d4, bj.d5, bj.d6, bj.d7, bj.d8, ()))))))) (fun bk => some (Sum.inl (bk.1, bk.2.1, bk.d2, L.addI .i64 bk.d3 1, bk.d4, bk.d5, bk.d6, bk.d7, bk.d8, ()))))))) (some (Sum.inr (b.d8, ())))) (x.d2, x.1, L.lenI x.1.l, 0, x.2.1.1, x.2.1.2.1, x.2.1.d2, x.2.1.2.2.2, ⟨true, ([] : List Y2)⟩, ())
noncomputable def f_bq := b_bq lf f_bl f_c9 f_bt f_bp
def b_dv (L : Lf) (x : Y0 × Y2 × Unit) : Option Y9 :=
 L.loopR (fun (b : Y2 × Int × Int × (Sl Y0) × Unit) => L.cnd (L.ltI b.d2 b.2.1) (L.bnd (L.at? b.1.l b.d2) (fun d => L.bnd (L.fit (L.sumI (L.lenI b.d3.l) (L.lenI d.l))) (fun _ => some (Sum.inl (b.1, b.2.1, L.addI .i64 b.d2 1, ⟨L.andB b.d3.nil (L.isE d.l), L.app b.d3.l d.l⟩, ()))))) (some (Sum.inr (b.d3, ())))) (x.2.1, L.lenI x.2.1.l, 0, ⟨false, ([(x.1.1, x.1.2.1, x.1.d2, L.lenI x.2.1.l)] : List Y0)⟩, ())
noncomputable def f_dv := b_dv lf
def b_bm (L : Lf) (c0 : Yf1) (x : Y20) : Option Y20 :=
 L.loopR (fun (b : (Sl Y2) × Int × Int × (Sl Y2) × Unit) => L.cnd (L.ltI b.d2 b.2.1) (L.bnd (L.at? b.1.l b.d2) (fun d => L.bnd (L.at? d.l 0) (fun e => L.bnd (c0 (e, ())) (fun g => L.bnd (L.cnd g.1 (L.bnd (L.cutL d.l 1 (L.lenI d.l)) (fun h => L.bnd (L.fit (L.sumI (L.lenI b.d3.l) (L.lenI ([⟨d.nil, h⟩] : List Y2)))) (fun _ => some (b.1, b.2.1, b.d2, ⟨L.andB b.d3.nil (L.isE ([⟨d.nil, h⟩] : List Y2)), L.app b.d3.l ([⟨d.nil, h⟩] : List Y2)⟩, ())))) (some (b.1, b.2.1, b.d2, b.d3, ()))) (fun i => some (Sum.inl (i.1, i.2.1, L.addI .i64 i.d2 1, i.d3, ()))))))) (some (Sum.inr (b.d3, ())))) (x.1, L.lenI x.1.l, 0, ⟨true, ([] : List Y2)⟩, ())
noncomputable def f_bm := b_bm lf f_bt
def b_b8 (L : Lf) (c0 : Yf9) (c1 : Yf19) (c2 : ((Sl Y1) × (Sl Y0) × Unit) → Option (Y1 × Bool × Unit)) (c3 : ((Sl Y5) × (Sl Y2) × Unit) → Option Y56) (c4 : Unit → Option Y9) (c5 : (Int × Y3 × Int × (Sl Y2) × Unit) → Option Y30) (c6 : Y20 → Option Y4) (c7 : Yf25) (c8 : ((Sl Y2) × Y0 × Int × Unit) → Option Y20) (c9 : (Y0 × Y2 × Unit) → Option Y9) (c10 : Y20 → Option Y20) (c11 : Y6 → Option Y21) (x : Y51) : Option Y31 :=
 L.cnd (L.eqI (L.lenI x.1.l) 0) (some (⟨true, ([] : List (Sl Y0))⟩, L.eqI (L.lenI x.2.1.l) 0, x.d2, ())) (L.bnd (L.at? x.1.l 0) (fun b => L.bnd (c2 (x.d2, b, ())) (fun d => L.bnd (c3 (d.1.2.2, x.2.1, ())) (fun e => L.bnd (L.cnd (L.ltI 0 (L.lenI d.1.2.2.l)) (some (L.ltI e.1 0)) (some false)) (fun g => L.cnd g (L.loopR (fun (h : Y2 × (Sl Y0) × (Sl Y5) × Int × Int × (Sl Y1) × (Sl Y2) × Unit) => L.cnd (L.ltI h.d4 h.d3) (L.bnd (L.at? h.d2.l h.d4) (fun i => L.bnd (c0 (h.d5, h.2.1, i.1, ())) (fun j => L.bnd (L.cutL h.1.l 1 (L.lenI h.1.l)) (fun k => L.bnd (c7 (⟨false, ([j.1, ⟨h.1.nil, k⟩] : List Y2)⟩, ())) (fun m => L.bnd (c8 (h.d6, (24, i.1, 0, 0), L.lenI j.1.l, ())) (fun n => L.bnd (c1 (m.1, n.1, h.d5, ())) (fun o => L.cnd o.2.1 (L.bnd (L.cutL o.1.l 0 (L.lenI j.1.l)) (fun p => L.bnd (c9 ((24, i.1, 0, 0), ⟨o.1.nil, p⟩, ())) (fun q => L.bnd (L.cutL o.1.l (L.lenI j.1.l) (L.lenI o.1.l)) (fun r => L.bnd (c7 (⟨false, ([⟨false, ([q.1] : List (Sl Y0))⟩, ⟨o.1.nil, r⟩] : List Y2)⟩, ())) (fun s => some (Sum.inr (s.1, true, o.d2, ()))))))) (some (Sum.inl (h.1, h.2.1, h.d2, h.d3, L.addI .i64 h.d4 1, o.d2, h.d6, ())))))))))) (some (Sum.inr (⟨true, ([] : List (Sl Y0))⟩, false, h.d5, ())))) (x.1, b, d.1.2.2, L.lenI d.1.2.2.l, 0, x.d2, e.2.1, ())) (L.bnd (L.cutL x.1.l 1 (L.lenI x.1.l)) (fun t => L.bnd (c10 (e.2.1, ())) (fun u => L.bnd (c1 (⟨x.1.nil, t⟩, u.1, x.d2, ())) (fun v => L.cnd (L.notB v.2.1) (some (⟨true, ([] : List (Sl Y0))⟩, false, v.d2, ())) (L.bnd (c4 ()) (fun w => L.bnd (c6 (e.2.1, ())) (fun y => L.bnd (L.cnd (L.notB y.1) (some (Sum.inl (v.1, w.1, v.d2, ()))) (L.bnd (L.cnd (L.ltI 0 (L.lenI d.1.2.2.l)) (L.bnd (L.at? d.1.2.2.l e.1) (fun z => L.bnd (c11 (L.lenI z.2.l, ())) (fun bb => L.bnd (c9 ((24, z.1, 0, 0), bb.1, ())) (fun bd => some (Sum.inl (v.1, bd.1, v.d2, ())))))) (L.loopR (fun (be : Y2 × Int × (Sl Y1) × (Sl Y2) × Unit) => L.bnd (c5 (23, ([] : Y3), be.2.1, be.d3, ())) (fun bg => L.cnd bg.1 (some (Sum.inl (be.1, L.addI .i64 be.2.1 1, be.d2, bg.2.1, ()))) (some (Sum.inr (Sum.inl (be.1, ⟨false, ([(23, ([] : Y3), be.2.1, 0)] : List Y0)⟩, be.d2, ())))))) (v.1, 0, v.d2, e.2.1, ()))) (L.sumE (fun bh => some (Sum.inl (bh.1, bh.2.1, bh.d2, ())))))) (L.sumE (fun bi => L.bnd (c7 (⟨false, ([⟨false, ([bi.2.1] : List (Sl Y0))⟩, bi.1] : List Y2)⟩, ())) (fun bj => some (bj.1, true, bi.d2, ()))))))))))))))))
noncomputable def g_b8 (self : Yf19) (x : Y51) : Option Y31 := b_b8 lf f_b4 self f_b6 f_d7 f_b3 f_b9 f_cm f_c9 f_bq f_dv f_bm f_bp x
noncomputable def f_b8 := recR g_b8
def b_bo (L : Lf) (x : Y21) : Option Y20 :=
 L.loopR (fun (b : Y2 × Int × Int × (Sl Y2) × Unit) => L.cnd (L.ltI b.d2 b.2.1) (L.bnd (L.at? b.1.l b.d2) (fun d => L.bnd (L.fit (L.sumI (L.lenI b.d3.l) (L.lenI ([⟨false, ([d] : List (Sl Y0))⟩] : List Y2)))) (fun _ => some (Sum.inl (b.1, b.2.1, L.addI .i64 b.d2 1, ⟨L.andB b.d3.nil (L.isE ([⟨false, ([d] : List (Sl Y0))⟩] : List Y2)), L.app b.d3.l ([⟨false, ([d] : List (Sl Y0))⟩] : List Y2)⟩, ()))))) (some (Sum.inr (b.d3, ())))) (x.1, L.lenI x.1.l, 0, ⟨true, ([] : List Y2)⟩, ())
noncomputable def f_bo := b_bo lf
def b_b1 (L : Lf) (c0 : Y32 → Option Y6) (c1 : Yf19) (c2 : Y21 → Option Y20) (x : Y32) : Option ((Sl Y0) × Bool × Int × Unit) :=
 L.bnd (c0 (x.1, x.2.1, x.d2, ())) (fun b => L.cnd (L.notB (L.eqI b.1 0)) (some (⟨true, ([] : List Y0)⟩, false, b.1, ())) (L.bnd (c2 (x.d2, ())) (fun d => L.bnd (c1 (⟨false, ([x.2.1] : List (Sl Y0))⟩, d.1, x.1, ())) (fun e => L.cnd (L.notB e.2.1) (some (⟨true, ([] : List Y0)⟩, false, 0, ())) (L.bnd (L.at? e.1.l 0) (fun g => some (g, true, 0, ())))))))
noncomputable def f_b1 := b_b1 lf f_bn f_b8 f_bo
def b_bf (L : Lf) (x : Y2 × Y5 × Unit) : Option Y4 :=
 L.bnd (L.at? x.1.l 0) (fun b => L.bnd (L.at? b.l 0) (fun d => L.cnd (L.eqI d.1 24) (L.bnd (L.at? x.1.l 0) (fun e => L.bnd (L.at? e.l 0) (fun g => some (L.eqS g.2.1 x.2.1.1, ())))) (some (false, ()))))
noncomputable def f_bf := b_bf lf
def b_cy (L : Lf) (c0 : (Y2 × Y5 × Unit) → Option Y4) (x : (Sl Y2) × Y5 × Unit) : Option Y6 :=
 L.loopR (fun (b : (Sl Y2) × Y5 × Int × Int × Unit) => L.cnd (L.ltI b.d3 b.d2) (L.bnd (L.at? b.1.l b.d3) (fun d => L.bnd (c0 (d, b.2.1, ())) (fun e => L.cnd e.1 (some (Sum.inr (b.d3, ()))) (some (Sum.inl (b.1, b.2.1, b.d2, L.addI .i64 b.d3 1, ())))))) (some (Sum.inr ((-1), ())))) (x.1, x.2.1, L.lenI x.1.l, 0, ())
noncomputable def f_cy := b_cy lf f_bf
def b_cc (L : Lf) (c0 : ((Sl Y2) × Y5 × Unit) → Option Y6) (x : (Sl Y2) × Y5 × Unit) : Option Y4 :=
 L.bnd (c0 (x.1, x.2.1, ())) (fun b => some (L.leI 0 b.1, ()))
noncomputable def f_cc := b_cc lf f_cy
def b_be (L : Lf) (c0 : ((Sl Y2) × Y5 × Unit) → Option Y4) (x : Y5 × (Sl Y2) × Unit) : Option Y30 :=
 L.bnd (c0 (x.2.1, (x.1.1, x.1.2), ())) (fun b => some (b.1, x.2.1, ()))
noncomputable def f_be := b_be lf f_cc
def b_bg (L : Lf) (c0 : (Y5 × (Sl Y2) × Unit) → Option Y30) (x : Y5 × (Sl Y2) × Unit) : Option Y30 :=
 L.bnd (c0 ((x.1.1, x.1.2), x.2.1, ())) (fun b => some (L.notB b.1, b.2.1, ()))
noncomputable def f_bg := b_bg lf f_be
def b_cr (L : Lf) (c0 : (Y5 × (Sl Y2) × Unit) → Option Y30) (x : (Sl Y5) × (Sl Y2) × Unit) : Option Y56 :=
 L.loopR (fun (b : (Sl Y5) × Int × Int × (Sl Y2) × Unit) => L.cnd (L.ltI b.d2 b.2.1) (L.bnd (L.at? b.1.l b.d2) (fun d => L.bnd (c0 (d, b.d3, ())) (fun e => L.cnd e.1 (some (Sum.inr (b.d2, e.2.1, ()))) (some (Sum.inl (b.1, b.2.1, L.addI .i64 b.d2 1, e.2.1, ())))))) (some (Sum.inr ((-1), b.d3, ())))) (x.1, L.lenI x.1.l, 0, x.2.1, ())
noncomputable def f_cr := b_cr lf f_bg
def b_cd (L : Lf) (c0 : ((Sl Y5) × (Sl Y2) × Unit) → Option Y56) (x : (Sl Y5) × (Sl Y2) × Unit) : Option Y30 :=
 L.bnd (c0 (x.1, x.2.1, ())) (fun b => some (L.leI 0 b.1, b.2.1, ()))
noncomputable def f_cd := b_cd lf f_cr
def q1k (L : Lf) (c0 : Yf9) (c1 : Yf6) (c2 : Yf25) (c3 : ((Sl Y2) × Y0 × Int × Unit) → Option Y20) (c4 : Y6 → Option Y21) (x : Y5 × (Sl Y0) × Y2 × (Sl Y2) × Y2 × (Sl Y1) × Unit) : Option Y25 :=
 L.bnd (c0 (x.d5, x.2.1, x.1.1, ())) (fun b => L.bnd (L.cutL x.d2.l 1 (L.lenI x.d2.l)) (fun d => L.bnd (c2 (⟨false, ([b.1, ⟨x.d2.nil, d⟩] : List Y2)⟩, ())) (fun e => L.bnd (c3 (x.d3, (24, x.1.1, 0, 0), L.lenI b.1.l, ())) (fun g => L.bnd (c4 (L.lenI b.1.l, ())) (fun h => L.bnd (L.cutL x.d4.l 1 (L.lenI x.d4.l)) (fun i => L.bnd (c2 (⟨false, ([h.1, ⟨x.d4.nil, i⟩] : List Y2)⟩, ())) (fun j => L.bnd (c1 (e.1, g.1, j.1, x.d5, ())) (fun k => some (k.1, x.2.1, x.d2, x.d3, x.d4, k.2.1, ())))))))))
noncomputable def q12 (self : Yf6) (x : Y5 × (Sl Y0) × Y2 × (Sl Y2) × Y2 × (Sl Y1) × Unit) : Option Y25 := q1k lf f_b4 self f_c9 f_bq f_bp x
def q1c (L : Lf) (c0 : (Y5 × (Sl Y0) × Y2 × (Sl Y2) × Y2 × (Sl Y1) × Unit) → Option Y25) (x : (Sl Y5) × (Sl Y0) × Y2 × (Sl Y2) × Y2 × (Sl Y1) × Unit) : Option Y39 :=
 L.loopR (fun (b : (Sl Y5) × Int × Int × (Sl Y0) × Y2 × (Sl Y2) × Y2 × (Sl Y1) × Unit) => L.cnd (L.ltI b.d2 b.2.1) (L.bnd (L.at? b.1.l b.d2) (fun d => L.bnd (c0 (d, b.d3, b.d4, b.d5, b.d6, b.d7, ())) (fun e => L.cnd e.1 (some (Sum.inr (b.d2, e.2.1, e.d2, e.d3, e.d4, e.d5, ()))) (some (Sum.inl (b.1, b.2.1, L.addI .i64 b.d2 1, e.2.1, e.d2, e.d3, e.d4, e.d5, ())))))) (some (Sum.inr ((-1), b.d3, b.d4, b.d5, b.d6, b.d7, ())))) (x.1, L.lenI x.1.l, 0, x.2.1, x.d2, x.d3, x.d4, x.d5, ())
noncomputable def q0x (self : Yf6) (x : (Sl Y5) × (Sl Y0) × Y2 × (Sl Y2) × Y2 × (Sl Y1) × Unit) : Option Y39 := q1c lf (q12 self) x
def q11 (L : Lf) (c0 : ((Sl Y5) × (Sl Y0) × Y2 × (Sl Y2) × Y2 × (Sl Y1) × Unit) → Option Y39) (x : (Sl Y5) × (Sl Y0) × Y2 × (Sl Y2) × Y2 × (Sl Y1) × Unit) : Option Y25 :=
 L.bnd (c0 (x.1, x.2.1, x.d2, x.d3, x.d4, x.d5, ())) (fun b => some (L.leI 0 b.1, b.2.1, b.d2, b.d3, b.d4, b.d5, ()))
noncomputable def q0p (self : Yf6) (x : (Sl Y5) × (Sl Y0) × Y2 × (Sl Y2) × Y2 × (Sl Y1) × Unit) : Option Y25 := q11 lf (q0x self) x
def b_bd (L : Lf) (c0 : Yf9) (c1 : Yf6) (c2 : ((Sl Y1) × (Sl Y0) × Unit) → Option (Y1 × Bool × Unit)) (c3 : Yf18) (c4 : Yf25) (c5 : ((Sl Y2) × Y0 × Int × Unit) → Option Y20) (c6 : Y20 → Option Y20) (c7 : ((Sl Y5) × (Sl Y2) × Unit) → Option Y30) (c8 : ((Sl Y5) × (Sl Y0) × Y2 × (Sl Y2) × Y2 × (Sl Y1) × Unit) → Option Y25) (x : Y16) : Option Y13 :=
 L.cnd (L.eqI (L.lenI x.1.l) 0) (some (L.eqI (L.lenI x.2.1.l) 0, x.d3, ())) (L.bnd (L.at? x.1.l 0) (fun b => L.bnd (L.at? x.d2.l 0) (fun d => L.bnd (L.at? d.l 0) (fun e => L.bnd (L.cnd (L.eqI e.1 24) (some true) (some (L.eqI e.1 23))) (fun g => L.cnd g (L.bnd (c0 (x.d3, b, e.2.1, ())) (fun h => L.bnd (L.cutL x.1.l 1 (L.lenI x.1.l)) (fun i => L.bnd (c4 (⟨false, ([h.1, ⟨x.1.nil, i⟩] : List Y2)⟩, ())) (fun j => L.bnd (c5 (x.2.1, (e.1, e.2.1, e.d2, 0), L.lenI h.1.l, ())) (fun k => L.bnd (L.at? x.d2.l 0) (fun m => L.bnd (c3 (m, ())) (fun n => L.bnd (L.cutL x.d2.l 1 (L.lenI x.d2.l)) (fun o => L.bnd (c4 (⟨false, ([n.1, ⟨x.d2.nil, o⟩] : List Y2)⟩, ())) (fun p => L.bnd (c1 (j.1, k.1, p.1, x.d3, ())) (fun q => some (q.1, q.2.1, ()))))))))))) (L.bnd (c2 (x.d3, b, ())) (fun r => L.cnd (L.eqI (L.lenI r.1.2.2.l) 0) (L.cnd true (L.bnd (L.cutL x.1.l 1 (L.lenI x.1.l)) (fun s => L.bnd (c6 (x.2.1, ())) (fun t => L.bnd (L.cutL x.d2.l 1 (L.lenI x.d2.l)) (fun u => L.bnd (c1 (⟨x.1.nil, s⟩, t.1, ⟨x.d2.nil, u⟩, x.d3, ())) (fun v => some (v.1, v.2.1, ())))))) (L.bnd (c8 (r.1.2.2, b, x.1, x.2.1, x.d2, x.d3, ())) (fun w => some (w.1, w.d5, ())))) (L.bnd (c7 (r.1.2.2, x.2.1, ())) (fun y => L.cnd y.1 (L.bnd (L.cutL x.1.l 1 (L.lenI x.1.l)) (fun z => L.bnd (c6 (y.2.1, ())) (fun bb => L.bnd (L.cutL x.d2.l 1 (L.lenI x.d2.l)) (fun bd => L.bnd (c1 (⟨x.1.nil, z⟩, bb.1, ⟨x.d2.nil, bd⟩, x.d3, ())) (fun be => some (be.1, be.2.1, ())))))) (L.bnd (c8 (r.1.2.2, b, x.1, y.2.1, x.d2, x.d3, ())) (fun bg => some (bg.1, bg.d5, ()))))))))))))
noncomputable def g_bd (self : Yf6) (x : Y16) : Option Y13 := b_bd lf f_b4 self f_b6 f_bl f_c9 f_bq f_bm f_cd (q0p self) x
noncomputable def f_bd := recR g_bd
def b_b2 (L : Lf) (c0 : Y32 → Option Y6) (c1 : Y21 → Option Y20) (c2 : Yf6) (x : Y32) : Option Y54 :=
 L.bnd (c0 (x.1, x.2.1, x.d2, ())) (fun b => L.cnd (L.notB (L.eqI b.1 0)) (some (⟨true, ([] : Y3)⟩, b.1, ())) (L.loopR (fun (d : (Sl Y0) × Y2 × Y2 × Int × Int × (Sl Y1) × (Sl Int) × Unit) => L.cnd (L.ltI d.d4 d.d3) (L.bnd (L.at? d.d2.l d.d4) (fun e => L.bnd (L.cutL d.2.1.l 0 d.d4) (fun g => L.bnd (c1 (⟨d.2.1.nil, g⟩, ())) (fun h => L.bnd (c2 (⟨false, ([d.1] : List (Sl Y0))⟩, h.1, ⟨false, ([e] : List (Sl Y0))⟩, d.d5, ())) (fun i => L.bnd (L.cnd (L.notB i.1) (L.bnd (L.fit (L.sumI (L.lenI d.d6.l) (L.lenI ([d.d4] : Y3)))) (fun _ => some (d.1, d.2.1, d.d2, d.d3, d.d4, i.2.1, ⟨L.andB d.d6.nil (L.isE ([d.d4] : Y3)), L.app d.d6.l ([d.d4] : Y3)⟩, ()))) (some (d.1, d.2.1, d.d2, d.d3, d.d4, i.2.1, d.d6, ()))) (fun j => some (Sum.inl (j.1, j.2.1, j.d2, j.d3, L.addI .i64 j.d4 1, j.d5, j.d6, ())))))))) (some (Sum.inr (d.d6, 0, ())))) (x.2.1, x.d2, x.d2, L.lenI x.d2.l, 0, x.1, ⟨true, ([] : Y3)⟩, ())))
noncomputable def f_b2 := b_b2 lf f_bn f_bo f_bd
def b_bx (L : Lf) (x : (Sl Int) × (Sl Int) × Unit) : Option Y4 :=
 L.cnd (L.notB (L.eqI (L.lenI x.1.l) (L.lenI x.2.1.l))) (some (false, ())) (L.loopR (fun (b : (Sl Int) × (Sl Int) × Int × Unit) => L.cnd (L.ltI b.d2 (L.lenI b.1.l)) (L.bnd (L.at? b.1.l b.d2) (fun d => L.bnd (L.at? b.2.1.l b.d2) (fun e => L.cnd (L.notB (L.eqI d e)) (some (Sum.inr (false, ()))) (some (Sum.inl (b.1, b.2.1, L.addI .i64 b.d2 1, ())))))) (some (Sum.inr (true, ())))) (x.1, x.2.1, 0, ()))
noncomputable def f_bx := b_bx lf
def q52 (_L : Lf) (_x : Unit) : Option Y46 :=
 some (⟨false, ([(([76, 105, 115, 116] : Y3), 1, ⟨false, ([(([78, 105, 108] : Y3), ⟨true, ([] : List (Sl Y0))⟩), (([67, 111, 110, 115] : Y3), ⟨false, ([⟨false, ([(31, ([] : Y3), 0, 0)] : List Y0)⟩, ⟨false, ([(32, ([76, 105, 115, 116] : Y3), 0, 1), (31, ([] : Y3), 0, 0)] : List Y0)⟩] : List (Sl Y0))⟩)] : List Y5)⟩)] : List Y1)⟩, ())
noncomputable def q53 := q52 lf
def q44 (L : Lf) (c0 : Yf9) (c1 : Yf23) (c2 : Yf0) (c3 : Yf13) (c4 : (Y2 × (Sl Y0) × Unit) → Option Y6) (c5 : Y32 → Option ((Sl Y0) × Bool × Int × Unit)) (c6 : Y32 → Option Y54) (c7 : ((Sl Int) × (Sl Int) × Unit) → Option Y4) (c8 : Unit → Option Y46) (_x : Unit) : Option Y4 :=
 L.bnd (c8 ()) (fun b => L.bnd (c5 (b.1, ⟨false, ([(32, ([76, 105, 115, 116] : Y3), 0, 1), (32, ([105, 110, 116] : Y3), 0, 0)] : List Y0)⟩, ⟨false, ([⟨false, ([(24, ([78, 105, 108] : Y3), 0, 0)] : List Y0)⟩, ⟨false, ([(24, ([67, 111, 110, 115] : Y3), 0, 2), (22, ([120] : Y3), 0, 0), (24, ([78, 105, 108] : Y3), 0, 0)] : List Y0)⟩] : List (Sl Y0))⟩, ())) (fun d => L.bnd (c8 ()) (fun e => L.bnd (c6 (e.1, ⟨false, ([(32, ([76, 105, 115, 116] : Y3), 0, 1), (32, ([105, 110, 116] : Y3), 0, 0)] : List Y0)⟩, ⟨false, ([⟨false, ([(24, ([78, 105, 108] : Y3), 0, 0)] : List Y0)⟩, ⟨false, ([(24, ([67, 111, 110, 115] : Y3), 0, 2), (22, ([120] : Y3), 0, 0), (24, ([78, 105, 108] : Y3), 0, 0)] : List Y0)⟩, ⟨false, ([(24, ([78, 105, 108] : Y3), 0, 0)] : List Y0)⟩] : List (Sl Y0))⟩, ())) (fun g => L.bnd (c3 (⟨false, ([(24, ([67, 111, 110, 115] : Y3), 0, 2), (22, ([120] : Y3), 0, 0), (24, ([78, 105, 108] : Y3), 0, 0)] : List Y0)⟩, ⟨false, ([(53, ([67, 111, 110, 115] : Y3), 0, 2), (51, ([] : Y3), 7, 0), (53, ([78, 105, 108] : Y3), 0, 0)] : List Y0)⟩, ())) (fun h => L.bnd (c8 ()) (fun i => L.bnd (c0 (i.1, ⟨false, ([(32, ([76, 105, 115, 116] : Y3), 0, 1), (32, ([105, 110, 116] : Y3), 0, 0)] : List Y0)⟩, ([67, 111, 110, 115] : Y3), ())) (fun j => L.bnd (L.cutN (L.lenI ([(53, ([67, 111, 110, 115] : Y3), 0, 2), (51, ([] : Y3), 7, 0), (53, ([78, 105, 108] : Y3), 0, 0)] : List Y0)) 2) (fun _ => L.bnd (c3 (d.1, ⟨false, L.dropL ([(53, ([67, 111, 110, 115] : Y3), 0, 2), (51, ([] : Y3), 7, 0), (53, ([78, 105, 108] : Y3), 0, 0)] : List Y0) 2⟩, ())) (fun k => L.bnd (c3 (d.1, ⟨false, ([(53, ([67, 111, 110, 115] : Y3), 0, 2), (51, ([] : Y3), 7, 0), (53, ([78, 105, 108] : Y3), 0, 0)] : List Y0)⟩, ())) (fun m => L.bnd (L.cnd d.2.1 (some (L.eqI d.d2 0)) (some false)) (fun n => L.bnd (L.cnd n (L.bnd (c8 ()) (fun o => L.bnd (c1 (o.1, ⟨false, ([(32, ([76, 105, 115, 116] : Y3), 0, 1), (32, ([105, 110, 116] : Y3), 0, 0)] : List Y0)⟩, d.1, ())) (fun p => some (L.eqI p.1 0)))) (some false)) (fun q => L.bnd (L.cnd q (some (L.notB k.2.1)) (some false)) (fun r => L.bnd (L.cnd r (some (L.notB m.2.1)) (some false)) (fun s => L.bnd (L.cnd s (some (L.eqI g.2.1 0)) (some false)) (fun t => L.bnd (L.cnd t (L.bnd (c7 (g.1, ⟨false, ([2] : Y3)⟩, ())) (fun u => some u.1)) (some false)) (fun v => L.bnd (L.cnd v (some h.2.1) (some false)) (fun w => L.bnd (L.cnd w (some (L.eqI (L.lenI h.1.l) 1)) (some false)) (fun y => L.bnd (L.cnd y (L.bnd (L.at? h.1.l 0) (fun z => some (L.eqS z.1 ([120] : Y3)))) (some false)) (fun bb => L.bnd (L.cnd bb (L.bnd (L.at? h.1.l 0) (fun bd => L.bnd (L.at? bd.2.l 0) (fun be => some (L.eqI be.d2 7)))) (some false)) (fun bg => L.bnd (L.cnd bg (L.bnd (c4 (⟨false, ([⟨false, ([(24, ([78, 105, 108] : Y3), 0, 0)] : List Y0)⟩, ⟨false, ([(24, ([67, 111, 110, 115] : Y3), 0, 2), (22, ([120] : Y3), 0, 0), (24, ([78, 105, 108] : Y3), 0, 0)] : List Y0)⟩] : List (Sl Y0))⟩, ⟨false, ([(53, ([67, 111, 110, 115] : Y3), 0, 2), (51, ([] : Y3), 7, 0), (53, ([78, 105, 108] : Y3), 0, 0)] : List Y0)⟩, ())) (fun bh => some (L.eqI bh.1 1))) (some false)) (fun bi => L.bnd (L.cnd bi (L.bnd (c8 ()) (fun bj => L.bnd (c2 (bj.1, ⟨false, ([(32, ([76, 105, 115, 116] : Y3), 0, 1), (32, ([105, 110, 116] : Y3), 0, 0)] : List Y0)⟩, ⟨false, ([(53, ([67, 111, 110, 115] : Y3), 0, 2), (51, ([] : Y3), 7, 0), (53, ([78, 105, 108] : Y3), 0, 0)] : List Y0)⟩, ())) (fun bk => some bk.1))) (some false)) (fun bm => L.bnd (L.cnd bm (L.bnd (c8 ()) (fun bn => L.bnd (c1 (bn.1, ⟨false, ([(32, ([76, 105, 115, 116] : Y3), 0, 1), (32, ([105, 110, 116] : Y3), 0, 0)] : List Y0)⟩, ⟨false, ([(24, ([67, 111, 110, 115] : Y3), 0, 2), (22, ([120] : Y3), 0, 0), (24, ([78, 105, 108] : Y3), 0, 0)] : List Y0)⟩, ())) (fun bo => some (L.eqI bo.1 0)))) (some false)) (fun bp => L.bnd (L.cnd bp (some j.2.1) (some false)) (fun bq => L.bnd (L.cnd bq (some (L.eqI (L.lenI j.1.l) 2)) (some false)) (fun br => L.bnd (L.cnd br (L.bnd (L.at? j.1.l 0) (fun bs => L.bnd (L.at? bs.l 0) (fun bt => some (L.eqS bt.2.1 ([105, 110, 116] : Y3))))) (some false)) (fun bu => some (bu, ())))))))))))))))))))))))))))
noncomputable def q1t := q44 lf f_au f_av f_ay f_az f_aw f_b1 f_b2 f_bx q53
def b_c6 (L : Lf) (x : Y21) : Option Y4 :=
 L.loopR (fun (b : Y2 × Int × Unit) => L.cnd (L.ltI b.2.1 (L.lenI b.1.l)) (L.loopR (fun (d : Y2 × Int × Int × Unit) => L.bnd (L.at? d.1.l d.2.1) (fun e => L.bnd (L.cnd (L.ltI d.d2 (L.lenI e.l)) (some (L.ltI d.d2 31)) (some false)) (fun g => L.cnd g (L.bnd (L.at? d.1.l d.2.1) (fun h => L.bnd (L.at? h.l d.d2) (fun i => L.cnd (L.ltI 60 (L.lenI i.2.1)) (some (Sum.inr (Sum.inr (false, ())))) (some (Sum.inl (d.1, d.2.1, L.addI .i64 d.d2 1, ())))))) (L.bnd (L.at? d.1.l d.2.1) (fun j => L.cnd (L.ltI 30 (L.lenI j.l)) (some (Sum.inr (Sum.inr (false, ())))) (some (Sum.inr (Sum.inl (d.1, L.addI .i64 d.2.1 1, ()))))))))) (b.1, b.2.1, 0, ())) (some (Sum.inr (L.leI (L.lenI b.1.l) 8, ())))) (x.1, 0, ())
noncomputable def f_c6 := b_c6 lf
def b_c3 (L : Lf) (x : Y46) : Option Y4 :=
 L.cnd (L.ltI 70 (L.lenI x.1.l)) (some (false, ())) (L.loopR (fun (b : Y34) => L.cnd (L.ltI b.d2 (L.lenI b.1.l)) (L.bnd (L.at? b.1.l b.d2) (fun d => L.bnd (L.cnd (L.ltI 70 (L.lenI d.2.2.l)) (some true) (L.bnd (L.at? b.1.l b.d2) (fun e => some (L.ltI 60 (L.lenI e.1))))) (fun g => L.cnd g (some (Sum.inr (false, ()))) (L.loopR (fun (h : Y47) => L.bnd (L.at? h.1.l h.d2) (fun i => L.cnd (L.ltI h.d3 (L.lenI i.2.2.l)) (L.bnd (L.at? h.1.l h.d2) (fun j => L.bnd (L.at? j.2.2.l h.d3) (fun k => L.bnd (L.cnd (L.ltI 60 (L.lenI k.1)) (some true) (some (L.ltI 10 (L.lenI k.2.l)))) (fun m => L.cnd m (some (Sum.inr (Sum.inr (false, ())))) (L.loopR (fun (n : (Sl Y1) × Int × Int × Int × Int × Y3 × Y2 × Unit) => L.cnd (L.ltI n.d4 (L.lenI n.d6.l)) (L.bnd (L.at? n.d6.l n.d4) (fun o => L.loopR (fun (p : (Sl Y1) × Int × Int × Int × Int × Int × Y3 × Y2 × Unit) => L.bnd (L.at? p.d7.l p.d4) (fun q => L.bnd (L.cnd (L.ltI p.d5 (L.lenI q.l)) (some (L.ltI p.d5 61)) (some false)) (fun r => L.cnd r (L.bnd (L.at? p.d7.l p.d4) (fun s => L.bnd (L.at? s.l p.d5) (fun t => L.cnd (L.ltI 60 (L.lenI t.2.1)) (some (Sum.inr (Sum.inr (Sum.inr (Sum.inr (false, ())))))) (some (Sum.inl (p.1, p.2.1, p.d2, p.d3, p.d4, L.addI .i64 p.d5 1, p.d6, p.d7, ())))))) (L.bnd (L.at? p.d7.l p.d4) (fun u => L.bnd (L.cnd (L.ltI 60 (L.lenI u.l)) (some true) (some (L.ltI 300 p.2.1))) (fun v => L.cnd v (some (Sum.inr (Sum.inr (Sum.inr (Sum.inr (false, ())))))) (some (Sum.inr (Sum.inl (p.1, p.2.1, p.d2, p.d3, L.addI .i64 p.d4 1, p.d6, p.d7, ())))))))))) (n.1, L.addI .i64 n.2.1 (L.lenI o.l), n.d2, n.d3, n.d4, 0, n.d5, n.d6, ()))) (some (Sum.inr (Sum.inl (n.1, n.2.1, n.d2, L.addI .i64 n.d3 1, ()))))) (h.1, h.2.1, h.d2, h.d3, 0, k.1, k.2, ())))))) (some (Sum.inr (Sum.inl (h.1, h.2.1, L.addI .i64 h.d2 1, ())))))) (b.1, b.2.1, b.d2, 0, ()))))) (some (Sum.inr (true, ())))) (x.1, 0, 0, ()))
noncomputable def f_c3 := b_c3 lf
def qcz (L : Lf) (c0 : Yf24) (c1 : Y46 → Option Y4) (x : Y32) : Option Y4 :=
 L.bnd (c1 (x.1, ())) (fun b => L.bnd (L.cnd b.1 (some (L.leI (L.lenI x.1.l) 10)) (some false)) (fun d => L.bnd (L.cnd d (L.bnd (c0 (⟨false, ([x.2.1] : List (Sl Y0))⟩, ())) (fun e => some e.1)) (some false)) (fun g => L.bnd (L.cnd g (L.bnd (c0 (x.d2, ())) (fun h => some h.1)) (some false)) (fun i => L.bnd (L.cnd i (some (L.leI (L.lenI x.d2.l) 6)) (some false)) (fun j => some (j, ()))))))
noncomputable def q4q := qcz lf f_c6 f_c3
def b_bw (L : Lf) (c0 : Yf2) (x : Y12) : Option Y6 :=
 L.bnd (L.cnd (L.ltI x.2.1 0) (some true) (some (L.leI (L.lenI x.1.l) x.2.1))) (fun b => L.bnd (L.cnd b (some true) (L.bnd (L.at? x.1.l x.2.1) (fun d => some (L.ltI d.2.2.2 0)))) (fun e => L.bnd (L.cnd e (some true) (L.bnd (L.at? x.1.l x.2.1) (fun g => some (L.ltI (L.lenI x.1.l) g.2.2.2)))) (fun h => L.cnd h (some ((-1), ())) (L.loopR (fun (i : (Sl Y0) × Int × Int × Int × Unit) => L.bnd (L.at? i.1.l i.2.1) (fun j => L.cnd (L.ltI i.d3 j.2.2.2) (L.bnd (c0 (i.1, i.d2, ())) (fun k => L.cnd (L.ltI k.1 0) (some (Sum.inr ((-1), ()))) (some (Sum.inl (i.1, i.2.1, k.1, L.addI .i64 i.d3 1, ()))))) (some (Sum.inr (i.d2, ()))))) (x.1, x.2.1, L.addI .i64 x.2.1 1, 0, ())))))
noncomputable def g_bw (self : Yf2) (x : Y12) : Option Y6 := b_bw lf self x
noncomputable def f_bw := recR g_bw
def b_bv (L : Lf) (x : Y6) : Option Y6 :=
 L.bnd (L.remI x.1 9223372036854775808) (fun b => L.cnd (L.leI 4611686018427387904 b) (some (L.subI .i64 (L.cvI .i64 (L.subI .u64 b 4611686018427387904)) 4611686018427387904, ())) (some (L.cvI .i64 b, ())))
noncomputable def f_bv := b_bv lf
def b_bu (L : Lf) (c0 : Yf7) (x : Y6) : Option Y6 :=
 L.bnd (c0 (L.cvI .u64 x.1, ())) (fun b => some (b.1, ()))
noncomputable def f_bu := b_bu lf f_bv
def b_c0 (L : Lf) (x : Y6) : Option Y6 :=
 L.loopR (fun (b : Int × Y3 × Int × Unit) => L.cnd (L.ltI b.d2 (L.lenI b.2.1)) (L.bnd (L.at? b.2.1 b.d2) (fun d => L.cnd (L.eqI d b.1) (some (Sum.inr (5, ()))) (some (Sum.inl (b.1, b.2.1, L.addI .i64 b.d2 1, ()))))) (L.bnd (L.cnd (L.leI 97 b.1) (some (L.leI b.1 122)) (some false)) (fun e => L.cnd e (some (Sum.inr (1, ()))) (L.bnd (L.cnd (L.leI 65 b.1) (some (L.leI b.1 90)) (some false)) (fun g => L.cnd g (some (Sum.inr (2, ()))) (L.bnd (L.cnd (L.leI 48 b.1) (some (L.leI b.1 57)) (some false)) (fun h => L.cnd h (some (Sum.inr (3, ()))) (L.bnd (L.cnd (L.eqI b.1 95) (some true) (some (L.eqI b.1 39))) (fun i => L.cnd i (some (Sum.inr (4, ()))) (some (Sum.inr (0, ())))))))))))) (x.1, ([33, 36, 37, 38, 42, 43, 45, 47, 58, 60, 61, 62, 63, 64, 94, 124] : Y3), 0, ())
noncomputable def f_c0 := b_c0 lf
def b_c1 (L : Lf) (c0 : Yf7) (x : Y3 × Int × Int × Int × Unit) : Option Y6 :=
 L.loopR (fun (b : Y3 × Int × Int × Int × Unit) => L.bnd (L.cnd (L.ltI b.2.1 (L.lenI b.1)) (L.bnd (L.at? b.1 b.2.1) (fun d => L.bnd (c0 (d, ())) (fun e => some (L.leI b.d2 e.1)))) (some false)) (fun g => L.bnd (L.cnd g (L.bnd (L.at? b.1 b.2.1) (fun h => L.bnd (c0 (h, ())) (fun i => some (L.leI i.1 b.d3)))) (some false)) (fun j => L.cnd j (some (Sum.inl (b.1, L.addI .i64 b.2.1 1, b.d2, b.d3, ()))) (some (Sum.inr (b.2.1, ())))))) (x.1, x.2.1, x.d2, x.d3, ())
noncomputable def f_c1 := b_c1 lf f_c0
def b_c2 (_L : Lf) (_x : Unit) : Option Y14 :=
 some (⟨false, ([([108, 101, 116] : Y3), ([114, 101, 99] : Y3), ([105, 110] : Y3), ([102, 117, 110] : Y3), ([105, 102] : Y3), ([116, 104, 101, 110] : Y3), ([101, 108, 115, 101] : Y3), ([109, 97, 116, 99, 104] : Y3), ([119, 105, 116, 104] : Y3), ([101, 110, 100] : Y3), ([114, 97, 105, 115, 101] : Y3), ([116, 114, 121] : Y3), ([111, 112, 101, 110] : Y3), ([116, 121, 112, 101] : Y3), ([111, 102] : Y3), ([105, 110, 102, 105, 120, 108] : Y3), ([105, 110, 102, 105, 120, 114] : Y3), ([105, 110, 102, 105, 120] : Y3), ([45, 62] : Y3), ([61] : Y3), ([124] : Y3), ([40] : Y3), ([41] : Y3), ([95] : Y3), ([59, 59] : Y3)] : List Y3)⟩, ())
noncomputable def f_c2 := b_c2 lf
def b_by (L : Lf) (c0 : Unit → Option Y14) (x : Y44) : Option Y4 :=
 L.bnd (c0 ()) (fun b => L.loopR (fun (d : Y3 × (Sl Y3) × Int × Unit) => L.cnd (L.ltI d.d2 (L.lenI d.2.1.l)) (L.bnd (L.at? d.2.1.l d.d2) (fun e => L.cnd (L.eqS e d.1) (some (Sum.inr (true, ()))) (some (Sum.inl (d.1, d.2.1, L.addI .i64 d.d2 1, ()))))) (some (Sum.inr (false, ())))) (x.1, b.1, 0, ()))
noncomputable def f_by := b_by lf f_c2
def b_bz (L : Lf) (c0 : Yf7) (c1 : Yf7) (c2 : (Y3 × Int × Int × Int × Unit) → Option Y6) (c3 : Yf3) (x : Y53) : Option Y4 :=
 L.cnd (L.ltI x.1.2.2.2 0) (some (false, ())) (L.bnd (L.cnd (L.eqI x.1.1 1) (some (x.1.2.1, x.1.1, L.eqI x.1.1 1, x.1.1, x.1.2.1, x.1.d2, x.1.2.2.2, ())) (some (x.1.2.1, x.1.1, L.eqI x.1.1 2, x.1.1, x.1.2.1, x.1.d2, x.1.2.2.2, ()))) (fun b => L.cnd b.d2 (L.cnd (L.eqI b.d5 0) (L.cnd (L.notB (L.eqS b.1 ([] : Y3))) (L.bnd (L.at? b.1 0) (fun d => L.bnd (c1 (d, ())) (fun e => L.cnd (L.eqI e.1 b.d3) (L.bnd (c2 (b.1, 0, 1, 4, ())) (fun g => L.cnd (L.eqI g.1 (L.lenI b.1)) (L.bnd (c3 (b.1, ())) (fun h => some (L.notB h.1, ()))) (some (false, ())))) (some (false, ()))))) (some (false, ()))) (some (false, ()))) (L.cnd (L.eqI b.2.1 3) (L.cnd (L.eqS b.1 ([] : Y3)) (L.bnd (c0 (b.d5, ())) (fun i => some (L.eqI i.1 b.d5, ()))) (some (false, ()))) (L.cnd (L.eqI b.2.1 4) (L.bnd (L.cnd (L.eqI b.d5 0) (some (L.leI (L.lenI b.1) 200)) (some false)) (fun j => some (j, ()))) (L.cnd (L.eqI b.2.1 5) (L.bnd (L.cnd (L.eqI b.d5 0) (some (L.notB (L.eqS b.1 ([] : Y3)))) (some false)) (fun k => L.bnd (L.cnd k (L.bnd (c2 (b.1, 0, 5, 5, ())) (fun m => some (L.eqI m.1 (L.lenI b.1)))) (some false)) (fun n => L.bnd (L.cnd n (L.bnd (c3 (b.1, ())) (fun o => some (L.notB o.1))) (some false)) (fun p => some (p, ()))))) (L.cnd (L.eqI b.2.1 6) (L.bnd (L.cnd (L.eqI b.d5 0) (L.bnd (c3 (b.1, ())) (fun q => some q.1)) (some false)) (fun r => some (r, ()))) (some (false, ()))))))))
noncomputable def f_bz := b_bz lf f_bu f_c0 f_c1 f_by
def b_c5 (L : Lf) (c0 : Yf4) (x : Y44) : Option Y4 :=
 L.bnd (c0 ((2, x.1, 0, 0), ())) (fun b => some (b.1, ()))
noncomputable def f_c5 := b_c5 lf f_bz
def b_c4 (L : Lf) (x : (Sl Y1) × Y0 × Unit) : Option Y4 :=
 L.loopR (fun (b : (Sl Y1) × Int × Int × Y3 × Int × Int × Unit) => L.cnd (L.ltI b.2.1 (L.lenI b.1.l)) (L.bnd (L.at? b.1.l b.2.1) (fun d => L.cnd (L.eqS d.1 b.d3) (L.bnd (L.at? b.1.l b.2.1) (fun e => L.cnd (L.eqI e.2.1 b.d5) (some (Sum.inr (true, ()))) (some (Sum.inl (b.1, L.addI .i64 b.2.1 1, b.d2, b.d3, b.d4, b.d5, ()))))) (L.cnd false (some (Sum.inr (true, ()))) (some (Sum.inl (b.1, L.addI .i64 b.2.1 1, b.d2, b.d3, b.d4, b.d5, ())))))) (some (Sum.inr (false, ())))) (x.1, 0, x.2.1.1, x.2.1.2.1, x.2.1.d2, x.2.1.2.2.2, ())
noncomputable def f_c4 := b_c4 lf
def qd0 (L : Lf) (x : Y9) : Option Y9 :=
 L.bnd (L.fit (L.sumI (L.lenI ([] : List Y0)) (L.lenI x.1.l))) (fun _ => some (⟨L.andB false (L.isE x.1.l), L.app ([] : List Y0) x.1.l⟩, ()))
noncomputable def q0y := qd0 lf
def qb6 (L : Lf) (c0 : Yf15) (x : Y21) : Option Y21 :=
 L.loopR (fun (b : Y2 × Int × Y2 × Unit) => L.cnd (L.ltI b.2.1 (L.lenI b.1.l)) (L.bnd (L.at? b.1.l b.2.1) (fun d => L.bnd (c0 (d, ())) (fun e => L.bnd (L.fit (L.sumI (L.lenI b.d2.l) (L.lenI ([e.1] : List (Sl Y0))))) (fun _ => some (Sum.inl (b.1, L.addI .i64 b.2.1 1, ⟨L.andB b.d2.nil (L.isE ([e.1] : List (Sl Y0))), L.app b.d2.l ([e.1] : List (Sl Y0))⟩, ())))))) (some (Sum.inr (b.d2, ())))) (x.1, 0, ⟨false, ([] : List (Sl Y0))⟩, ())
noncomputable def q2b := qb6 lf q0y
def q7z (L : Lf) (c0 : Yf26) (c1 : Y32 → Option Y4) (c2 : Yf15) (c3 : Yf0) (c4 : Yf24) (c5 : Yf13) (c6 : (Y2 × (Sl Y0) × Unit) → Option Y6) (c7 : Y21 → Option Y21) (c8 : Y32 → Option ((Sl Y0) × Bool × Int × Unit)) (x : (Sl Y1) × (Sl Y0) × Y2 × (Sl Y0) × Unit) : Option Y4 :=
 L.bnd (c0 ()) (fun b => L.bnd (L.cnd (L.notB b.1) (some true) (L.bnd (c1 (x.1, x.2.1, x.d2, ())) (fun d => some (L.notB d.1)))) (fun e => L.bnd (L.cnd e (some true) (L.bnd (c4 (⟨false, ([x.d3] : List (Sl Y0))⟩, ())) (fun g => some (L.notB g.1)))) (fun h => L.cnd h (L.bnd (c0 ()) (fun i => some (i.1, ()))) (L.bnd (L.fit (L.sumI (L.lenI ([] : List Y1)) (L.lenI x.1.l))) (fun _ => L.bnd (c2 (x.2.1, ())) (fun j => L.bnd (c7 (x.d2, ())) (fun k => L.bnd (c8 (⟨L.andB false (L.isE x.1.l), L.app ([] : List Y1) x.1.l⟩, j.1, k.1, ())) (fun m => L.bnd (L.cnd (L.notB (L.eqI m.d2 0)) (some true) (L.bnd (L.fit (L.sumI (L.lenI ([] : List Y1)) (L.lenI x.1.l))) (fun _ => L.bnd (c2 (x.2.1, ())) (fun n => L.bnd (c2 (x.d3, ())) (fun o => L.bnd (c3 (⟨L.andB false (L.isE x.1.l), L.app ([] : List Y1) x.1.l⟩, n.1, o.1, ())) (fun p => some (L.notB p.1))))))) (fun q => L.cnd q (some (true, ())) (L.bnd (c7 (x.d2, ())) (fun r => L.bnd (c2 (x.d3, ())) (fun s => L.bnd (c6 (r.1, s.1, ())) (fun t => L.cnd (L.notB m.2.1) (some (L.leI 0 t.1, ())) (L.bnd (c2 (m.1, ())) (fun u => L.bnd (c2 (x.d3, ())) (fun v => L.bnd (c5 (u.1, v.1, ())) (fun w => L.bnd (L.cnd (L.notB w.2.1) (some true) (some (L.eqI t.1 (-1)))) (fun y => some (y, ())))))))))))))))))))
noncomputable def f_law12_PatAll := q7z lf q1t q4q q0y f_ay f_c6 f_az f_aw q2b f_b1
end Fn
end Ev

