/- Models as values; lists by their names. -/
import Derived.Test.YtlkmlppamkidlaaGreatSqHP
import Derived.Test.YtlkmlppamkidlaaGreatSqHV
import Derived.Test.YtlkmlppamkidlaaGreatSqHK
import Derived.Test.YtlkmlppamkidlaaGreatSqHE
import Derived.Test.YtlkmlppamkidlaaGreatSqKB
import Derived.Test.YtlkmlppamkidlaaGreatSqH
set_option linter.all false
set_option maxRecDepth 100000
set_option maxHeartbeats 2000000
section
namespace Go.Proofs.YtlkmlppamkidlaaGreat
open Go Go.Sx Go.Proofs
structure VrV where
 name : ByteArray
 init : Int
structure StV where
 kind : Int
 name : ByteArray
 ak : Int
 an : Int
 aname : ByteArray
structure PrV where
 name : ByteArray
 weight : Int
 vars : List VrV
 steps : List StV
 pv : Option Addr
 cv : Nat
 ps : Option Addr
 cs : Nat
structure LkV where
 name : ByteArray
 frm : ByteArray
 to : ByteArray
 delay : Int
 weight : Int
structure EvV where
 to : ByteArray
 at_ : Int
 val : Int
def vrC (x : VrV) : List Value := [.string x.name, .int .i64 x.init]
def stC (x : StV) : List Value := [.int .i64 x.kind, .string x.name, .int .i64 x.ak, .int .i64 x.an, .string x.aname]
def prC (x : PrV) : List Value := [.string x.name, .int .i64 x.weight, .slice x.pv x.vars.length x.cv, .slice x.ps x.steps.length x.cs]
def lkC (x : LkV) : List Value := [.string x.name, .string x.frm, .string x.to, .int .i64 x.delay, .int .i64 x.weight]
def evC (x : EvV) : List Value := [.string x.to, .int .i64 x.at_, .int .i64 x.val]
theorem vrC_len (x : VrV) : (vrC x).length = 2 := rfl
theorem stC_len (x : StV) : (stC x).length = 5 := rfl
theorem prC_len (x : PrV) : (prC x).length = 4 := rfl
theorem lkC_len (x : LkV) : (lkC x).length = 5 := rfl
theorem evC_len (x : EvV) : (evC x).length = 3 := rfl
theorem vrC_one (x : VrV) : ∀ v ∈ vrC x, Value.oneCell' v = true := by simp [vrC, Value.oneCell']
theorem stC_one (x : StV) : ∀ v ∈ stC x, Value.oneCell' v = true := by simp [stC, Value.oneCell']
theorem prC_one (x : PrV) : ∀ v ∈ prC x, Value.oneCell' v = true := by simp [prC, Value.oneCell']
theorem lkC_one (x : LkV) : ∀ v ∈ lkC x, Value.oneCell' v = true := by simp [lkC, Value.oneCell']
theorem evC_one (x : EvV) : ∀ v ∈ evC x, Value.oneCell' v = true := by simp [evC, Value.oneCell']
theorem nameP_spec (x : PrV) (w0 : World) : CallsV Tryz.prog 30 #[.agg ⟨prC x⟩] w0 fun v w => v = .string x.name ∧ St Pu w0 w [] [] := by
 refine callsV_of Tryz.func30 rfl rfl ?_
 have H := St.init w0
 refine srO ?_
 refine ow_box (l := prC x) H rfl rfl rfl (fun b w H => ?_)
 refine asO ?_
 refine ow_nil ?_
 refine srO ?_
 refine fdO ?_
 refine ldO rfl (H.cell (i := 0) rfl rfl) ?_
 refine asO ?_
 refine ow_nil ?_
 refine wc_ret ?_
 obtain ⟨w, hT, H⟩ := H.takes Tryz.prog
 refine ⟨.inr rfl, w, hT, _, .tmp .nil, ?_⟩
 exact ⟨rfl, H.none⟩
theorem lessP_ok (b3 : Nat) : LessC Tryz.prog prC (fun a b => ltS a.name b.name) (.func (.func 77) #[] #[.pointer (some ⟨b3, 0, none⟩)]) (some ⟨b3, 0, none⟩) [.func (.func 30) #[] #[]] := by
 refine ⟨_, _, _, rfl, ent (by kernel_rfl), fun x y w0 h3 => ?_⟩
 refine callsV_of Tryz.func77 rfl rfl ?_
 have H := St.init w0
 refine srO ?_
 refine ow_box (l := prC x) H rfl rfl rfl (fun bx w H => ?_)
 refine ow_box (l := prC y) H rfl rfl rfl (fun bY w H => ?_)
 refine asO ?_
 refine ow_nil ?_
 refine wc_seq ?_
 refine dkO (fun w => St Pu w0 w [.row bY 35 (prC y), .row bx 35 (prC x)] []) 99 ?_
 replace H := H.drew
 refine tkL 0 rfl (fun w H => SlH.cell (j := 0) (H.oldSl h3) rfl) ?_
 refine tkL 3 rfl (fun w H => SlH.cell (j := 0) (H.oldSl h3) rfl) ?_
 apply ak_take (i := 1) rfl rfl rfl rfl (by kernel_rfl) (by assumption)
 ·intro w Q' H hq; refine ow_loadA (l := prC x) rfl (tyAt rfl) rfl rfl rfl (H.cells (i := 1) (o := 0) (m := 4) rfl rfl) ?_; exact ow_nil hq
 apply ak_take (i := 4) rfl rfl rfl rfl (by kernel_rfl) (by assumption)
 ·intro w Q' H hq; refine ow_loadA (l := prC y) rfl (tyAt rfl) rfl rfl rfl (H.cells (i := 0) (o := 0) (m := 4) rfl rfl) ?_; exact ow_nil hq
 apply ak_one (i := 2)
 ·kernel_rfl
 ·rfl
 ·rfl
 refine clO (nameP_spec x _) ?_
 rintro v w1 ⟨rfl, H'⟩
 replace H := H.call H'
 simp only [List.cons_append, List.nil_append] at H
 clear H'
 refine ow_nil ⟨fun _ => H, ?_⟩
 apply ak_one (i := 5)
 ·kernel_rfl
 ·rfl
 ·rfl
 refine clO (nameP_spec y _) ?_
 rintro v w2 ⟨rfl, H'⟩
 replace H := H.call H'
 simp only [List.cons_append, List.nil_append] at H
 clear H'
 refine ow_nil ⟨fun _ => H, ?_⟩
 apply ak_take (i := 6) rfl rfl rfl rfl (by kernel_rfl) (by assumption)
 ·intro w Q' H hq; refine ow_strcmp (b := ltS x.name y.name) rfl rfl rfl rfl ?_; exact ow_nil hq
 refine tkA 7 ?_
 refine ak_done (by kernel_rfl) ?_
 skip
 refine wc_ret ?_
 obtain ⟨w, hT, H⟩ := H.takes Tryz.prog
 refine ⟨.inr rfl, w, hT, _, .tmp .nil, ?_⟩
 exact ⟨rfl, H.none⟩
theorem byNameP_spec (p0 : Option Addr) (c0 : Nat) (xs : List PrV) (hm : xs.length ≤ 100000) (w0 : World) (hs : SlH (hp w0) p0 (xs.flatMap prC)) :
  CallsV Tryz.prog 29 #[.slice p0 xs.length c0, .func (.func 30) #[] #[]] w0 fun v w => ∃ q c' ys, v = .slice q ys.length c' ∧ ys.Perm xs ∧ SrtP (fun a b => ltS a.name b.name) ys ∧ St Pu w0 w [.app q ys.length c' 35 4 (ys.flatMap prC)] [] := by
 refine callsV_of Tryz.func29 rfl rfl ?_
 have H := St.init w0
 refine srO ?_
 refine ow_box (l := [.func (.func 30) #[] #[]]) H rfl rfl rfl (fun b3 w H => ?_)
 refine asO ?_
 refine ow_nil ?_
 refine srO ?_
 refine mvO ?_
 refine ow_makeFunc (fs := []) (cs := [.pointer _]) rfl rfl rfl ?_
 refine clO (sortP_spec prC_len prC_one (lessOk_key ltS_ok fun x : PrV => x.name) (lessP_ok b3) p0 c0 xs hm w (H.oldSl hs) (H.rowSl (i := 0) rfl)) ?_
 rintro v w1 ⟨q, c', ys, rfl, hP, hS, H'⟩
 replace H := H.call H'
 simp only [List.cons_append, List.nil_append] at H
 clear H'
 refine asO ?_
 refine ow_nil ?_
 refine wc_ret ?_
 obtain ⟨w, hT, H⟩ := H.takes Tryz.prog
 refine ⟨.inr rfl, w, hT, _, .tmp .nil, ?_⟩
 exact ⟨q, c', ys, rfl, hP, hS, H.only (i := 0) rfl⟩
theorem nameV_spec (x : VrV) (w0 : World) : CallsV Tryz.prog 32 #[.agg ⟨vrC x⟩] w0 fun v w => v = .string x.name ∧ St Pu w0 w [] [] := by
 refine callsV_of Tryz.func32 rfl rfl ?_
 have H := St.init w0
 refine srO ?_
 refine ow_box (l := vrC x) H rfl rfl rfl (fun b w H => ?_)
 refine asO ?_
 refine ow_nil ?_
 refine srO ?_
 refine fdO ?_
 refine ldO rfl (H.cell (i := 0) rfl rfl) ?_
 refine asO ?_
 refine ow_nil ?_
 refine wc_ret ?_
 obtain ⟨w, hT, H⟩ := H.takes Tryz.prog
 refine ⟨.inr rfl, w, hT, _, .tmp .nil, ?_⟩
 exact ⟨rfl, H.none⟩
theorem lessV_ok (b3 : Nat) : LessC Tryz.prog vrC (fun a b => ltS a.name b.name) (.func (.func 79) #[] #[.pointer (some ⟨b3, 0, none⟩)]) (some ⟨b3, 0, none⟩) [.func (.func 32) #[] #[]] := by
 refine ⟨_, _, _, rfl, ent (by kernel_rfl), fun x y w0 h3 => ?_⟩
 refine callsV_of Tryz.func79 rfl rfl ?_
 have H := St.init w0
 refine srO ?_
 refine ow_box (l := vrC x) H rfl rfl rfl (fun bx w H => ?_)
 refine ow_box (l := vrC y) H rfl rfl rfl (fun bY w H => ?_)
 refine asO ?_
 refine ow_nil ?_
 refine wc_seq ?_
 refine dkO (fun w => St Pu w0 w [.row bY 76 (vrC y), .row bx 76 (vrC x)] []) 99 ?_
 replace H := H.drew
 refine tkL 0 rfl (fun w H => SlH.cell (j := 0) (H.oldSl h3) rfl) ?_
 refine tkL 3 rfl (fun w H => SlH.cell (j := 0) (H.oldSl h3) rfl) ?_
 apply ak_take (i := 1) rfl rfl rfl rfl (by kernel_rfl) (by assumption)
 ·intro w Q' H hq; refine ow_loadA (l := vrC x) rfl (tyAt rfl) rfl rfl rfl (H.cells (i := 1) (o := 0) (m := 2) rfl rfl) ?_; exact ow_nil hq
 apply ak_take (i := 4) rfl rfl rfl rfl (by kernel_rfl) (by assumption)
 ·intro w Q' H hq; refine ow_loadA (l := vrC y) rfl (tyAt rfl) rfl rfl rfl (H.cells (i := 0) (o := 0) (m := 2) rfl rfl) ?_; exact ow_nil hq
 apply ak_one (i := 2)
 ·kernel_rfl
 ·rfl
 ·rfl
 refine clO (nameV_spec x _) ?_
 rintro v w1 ⟨rfl, H'⟩
 replace H := H.call H'
 simp only [List.cons_append, List.nil_append] at H
 clear H'
 refine ow_nil ⟨fun _ => H, ?_⟩
 apply ak_one (i := 5)
 ·kernel_rfl
 ·rfl
 ·rfl
 refine clO (nameV_spec y _) ?_
 rintro v w2 ⟨rfl, H'⟩
 replace H := H.call H'
 simp only [List.cons_append, List.nil_append] at H
 clear H'
 refine ow_nil ⟨fun _ => H, ?_⟩
 apply ak_take (i := 6) rfl rfl rfl rfl (by kernel_rfl) (by assumption)
 ·intro w Q' H hq; refine ow_strcmp (b := ltS x.name y.name) rfl rfl rfl rfl ?_; exact ow_nil hq
 refine tkA 7 ?_
 refine ak_done (by kernel_rfl) ?_
 skip
 refine wc_ret ?_
 obtain ⟨w, hT, H⟩ := H.takes Tryz.prog
 refine ⟨.inr rfl, w, hT, _, .tmp .nil, ?_⟩
 exact ⟨rfl, H.none⟩
theorem byNameV_spec (p0 : Option Addr) (c0 : Nat) (xs : List VrV) (hm : xs.length ≤ 100000) (w0 : World) (hs : SlH (hp w0) p0 (xs.flatMap vrC)) :
  CallsV Tryz.prog 31 #[.slice p0 xs.length c0, .func (.func 32) #[] #[]] w0 fun v w => ∃ q c' ys, v = .slice q ys.length c' ∧ ys.Perm xs ∧ SrtP (fun a b => ltS a.name b.name) ys ∧ St Pu w0 w [.app q ys.length c' 76 2 (ys.flatMap vrC)] [] := by
 refine callsV_of Tryz.func31 rfl rfl ?_
 have H := St.init w0
 refine srO ?_
 refine ow_box (l := [.func (.func 32) #[] #[]]) H rfl rfl rfl (fun b3 w H => ?_)
 refine asO ?_
 refine ow_nil ?_
 refine srO ?_
 refine mvO ?_
 refine ow_makeFunc (fs := []) (cs := [.pointer _]) rfl rfl rfl ?_
 refine clO (sortV_spec vrC_len vrC_one (lessOk_key ltS_ok fun x : VrV => x.name) (lessV_ok b3) p0 c0 xs hm w (H.oldSl hs) (H.rowSl (i := 0) rfl)) ?_
 rintro v w1 ⟨q, c', ys, rfl, hP, hS, H'⟩
 replace H := H.call H'
 simp only [List.cons_append, List.nil_append] at H
 clear H'
 refine asO ?_
 refine ow_nil ?_
 refine wc_ret ?_
 obtain ⟨w, hT, H⟩ := H.takes Tryz.prog
 refine ⟨.inr rfl, w, hT, _, .tmp .nil, ?_⟩
 exact ⟨q, c', ys, rfl, hP, hS, H.only (i := 0) rfl⟩
theorem nameK_spec (x : LkV) (w0 : World) : CallsV Tryz.prog 35 #[.agg ⟨lkC x⟩] w0 fun v w => v = .string x.name ∧ St Pu w0 w [] [] := by
 refine callsV_of Tryz.func35 rfl rfl ?_
 have H := St.init w0
 refine srO ?_
 refine ow_box (l := lkC x) H rfl rfl rfl (fun b w H => ?_)
 refine asO ?_
 refine ow_nil ?_
 refine srO ?_
 refine fdO ?_
 refine ldO rfl (H.cell (i := 0) rfl rfl) ?_
 refine asO ?_
 refine ow_nil ?_
 refine wc_ret ?_
 obtain ⟨w, hT, H⟩ := H.takes Tryz.prog
 refine ⟨.inr rfl, w, hT, _, .tmp .nil, ?_⟩
 exact ⟨rfl, H.none⟩
theorem lessK_ok (b3 : Nat) : LessC Tryz.prog lkC (fun a b => ltS a.name b.name) (.func (.func 81) #[] #[.pointer (some ⟨b3, 0, none⟩)]) (some ⟨b3, 0, none⟩) [.func (.func 35) #[] #[]] := by
 refine ⟨_, _, _, rfl, ent (by kernel_rfl), fun x y w0 h3 => ?_⟩
 refine callsV_of Tryz.func81 rfl rfl ?_
 have H := St.init w0
 refine srO ?_
 refine ow_box (l := lkC x) H rfl rfl rfl (fun bx w H => ?_)
 refine ow_box (l := lkC y) H rfl rfl rfl (fun bY w H => ?_)
 refine asO ?_
 refine ow_nil ?_
 refine wc_seq ?_
 refine dkO (fun w => St Pu w0 w [.row bY 37 (lkC y), .row bx 37 (lkC x)] []) 99 ?_
 replace H := H.drew
 refine tkL 0 rfl (fun w H => SlH.cell (j := 0) (H.oldSl h3) rfl) ?_
 refine tkL 3 rfl (fun w H => SlH.cell (j := 0) (H.oldSl h3) rfl) ?_
 apply ak_take (i := 1) rfl rfl rfl rfl (by kernel_rfl) (by assumption)
 ·intro w Q' H hq; refine ow_loadA (l := lkC x) rfl (tyAt rfl) rfl rfl rfl (H.cells (i := 1) (o := 0) (m := 5) rfl rfl) ?_; exact ow_nil hq
 apply ak_take (i := 4) rfl rfl rfl rfl (by kernel_rfl) (by assumption)
 ·intro w Q' H hq; refine ow_loadA (l := lkC y) rfl (tyAt rfl) rfl rfl rfl (H.cells (i := 0) (o := 0) (m := 5) rfl rfl) ?_; exact ow_nil hq
 apply ak_one (i := 2)
 ·kernel_rfl
 ·rfl
 ·rfl
 refine clO (nameK_spec x _) ?_
 rintro v w1 ⟨rfl, H'⟩
 replace H := H.call H'
 simp only [List.cons_append, List.nil_append] at H
 clear H'
 refine ow_nil ⟨fun _ => H, ?_⟩
 apply ak_one (i := 5)
 ·kernel_rfl
 ·rfl
 ·rfl
 refine clO (nameK_spec y _) ?_
 rintro v w2 ⟨rfl, H'⟩
 replace H := H.call H'
 simp only [List.cons_append, List.nil_append] at H
 clear H'
 refine ow_nil ⟨fun _ => H, ?_⟩
 apply ak_take (i := 6) rfl rfl rfl rfl (by kernel_rfl) (by assumption)
 ·intro w Q' H hq; refine ow_strcmp (b := ltS x.name y.name) rfl rfl rfl rfl ?_; exact ow_nil hq
 refine tkA 7 ?_
 refine ak_done (by kernel_rfl) ?_
 skip
 refine wc_ret ?_
 obtain ⟨w, hT, H⟩ := H.takes Tryz.prog
 refine ⟨.inr rfl, w, hT, _, .tmp .nil, ?_⟩
 exact ⟨rfl, H.none⟩
theorem byNameK_spec (p0 : Option Addr) (c0 : Nat) (xs : List LkV) (hm : xs.length ≤ 100000) (w0 : World) (hs : SlH (hp w0) p0 (xs.flatMap lkC)) :
  CallsV Tryz.prog 34 #[.slice p0 xs.length c0, .func (.func 35) #[] #[]] w0 fun v w => ∃ q c' ys, v = .slice q ys.length c' ∧ ys.Perm xs ∧ SrtP (fun a b => ltS a.name b.name) ys ∧ St Pu w0 w [.app q ys.length c' 37 5 (ys.flatMap lkC)] [] := by
 refine callsV_of Tryz.func34 rfl rfl ?_
 have H := St.init w0
 refine srO ?_
 refine ow_box (l := [.func (.func 35) #[] #[]]) H rfl rfl rfl (fun b3 w H => ?_)
 refine asO ?_
 refine ow_nil ?_
 refine srO ?_
 refine mvO ?_
 refine ow_makeFunc (fs := []) (cs := [.pointer _]) rfl rfl rfl ?_
 refine clO (sortK_spec lkC_len lkC_one (lessOk_key ltS_ok fun x : LkV => x.name) (lessK_ok b3) p0 c0 xs hm w (H.oldSl hs) (H.rowSl (i := 0) rfl)) ?_
 rintro v w1 ⟨q, c', ys, rfl, hP, hS, H'⟩
 replace H := H.call H'
 simp only [List.cons_append, List.nil_append] at H
 clear H'
 refine asO ?_
 refine ow_nil ?_
 refine wc_ret ?_
 obtain ⟨w, hT, H⟩ := H.takes Tryz.prog
 refine ⟨.inr rfl, w, hT, _, .tmp .nil, ?_⟩
 exact ⟨q, c', ys, rfl, hP, hS, H.only (i := 0) rfl⟩
end Go.Proofs.YtlkmlppamkidlaaGreat
end
section
namespace Go.Proofs.YtlkmlppamkidlaaGreat
open Go Go.Sx Go.Proofs
theorem nanL_spec (a : Int) (w0 : World) : CallsV Tryz.prog 134 #[.int .i64 a] w0 fun v w => v = .bool false ∧ w = w0 := by
 refine callsV_of Tryz.func134 rfl rfl ?_
 refine srO ?_
 refine asO ?_
 refine ow_nil ?_
 refine srO ?_
 refine mvO ?_
 refine mvO ?_
 refine ow_neq rfl rfl rfl ?_
 refine asO ?_
 refine ow_nil ?_
 refine wc_ret ⟨.inr rfl, _, rfl, _, .tmp .nil, ?_⟩
 exact ⟨congrArg Value.bool (decide_eq_false (fun h => h rfl)), rfl⟩
theorem cmpL_spec (a b : Int) (w0 : World) : CallsV Tryz.prog 86 #[.int .i64 a, .int .i64 b] w0 fun v w => v = .int .i64 (cmpZ ltI a b) ∧ w = w0 := by
 refine callsV_of Tryz.func86 rfl rfl ?_
 refine srO ?_
 refine asO ?_
 refine ow_nil ?_
 refine srO ?_
 refine mvO ?_
 refine clO (nanL_spec a w0) ?_
 rintro v w ⟨rfl, rfl⟩
 refine asO ?_
 refine ow_nil ?_
 refine srO ?_
 refine mvO ?_
 refine clO (nanL_spec b w) ?_
 rintro v w' ⟨rfl, rfl⟩
 refine asO ?_
 refine ow_nil ?_
 refine wc_seq ?_
 refine srO ?_
 refine mvO ?_
 refine ow_nil ?_
 refine wc_cond_false rfl ?_
 refine wc_skip ?_
 refine wc_seq ?_
 refine srO ?_
 refine mvO ?_
 refine ow_nil ?_
 refine wc_cond_false rfl ?_
 refine wc_skip ?_
 refine wc_seq ?_
 refine srO ?_
 refine mvO ?_
 refine mvO ?_
 refine ow_lss rfl rfl rfl ?_
 refine ow_nil ?_
 refine wc_cond_dec rfl (fun h => ?_) (fun h => ?_) <;> try dsimp only at h
 ·refine srO ?_
  refine asO ?_
  refine ow_nil ?_
  refine wc_ret ⟨.inr rfl, _, rfl, _, .tmp .nil, ?_⟩
  exact ⟨by simp [cmpZ, ltI, h]; rfl, rfl⟩
 have hab := h
 clear h
 refine wc_skip ?_
 refine wc_seq ?_
 refine srO ?_
 refine mvO ?_
 refine mvO ?_
 refine ow_gtr rfl rfl rfl ?_
 refine ow_nil ?_
 refine wc_cond_dec rfl (fun h => ?_) (fun h => ?_) <;> try dsimp only at h
 ·refine srO ?_
  refine asO ?_
  refine ow_nil ?_
  refine wc_ret ⟨.inr rfl, _, rfl, _, .tmp .nil, ?_⟩
  refine ⟨?_, rfl⟩
  rw [show cmpZ ltI a b = 1 by unfold cmpZ ltI; rw [if_neg (by simpa using hab), if_pos (by simpa using h)]]
  rfl
 ·refine wc_skip ?_
  refine srO ?_
  refine asO ?_
  refine ow_nil ?_
  refine wc_ret ⟨.inr rfl, _, rfl, _, .tmp .nil, ?_⟩
  refine ⟨?_, rfl⟩
  rw [show cmpZ ltI a b = 0 by unfold cmpZ ltI; rw [if_neg (by simpa using hab), if_neg (by simpa using h)]]
  rfl
def orZ : List Int → Int
 | [] => 0
 | a :: r => if a ≠ 0 then a else orZ r
theorem orZ_drop {vs : List Int} {i : Nat} (hi : i < vs.length) : orZ (vs.drop i) = if vs.getD i 0 ≠ 0 then vs.getD i 0 else orZ (vs.drop (i + 1)) := by
 rw [List.drop_eq_getElem_cons hi]
 simp [orZ, List.getD_eq_getElem?_getD, List.getElem?_eq_getElem hi]
theorem or_spec (p : Option Addr) (c : Nat) (vs : List Int) (hm : vs.length ≤ 100) (w0 : World) (hs : SlH (hp w0) p (ints .i64 vs)) : CallsV Tryz.prog 85 #[.slice p vs.length c] w0 fun v w => v = .int .i64 (orZ vs) ∧ St Pu w0 w [] [] := by
 refine callsV_of Tryz.func85 rfl rfl ?_
 have H := St.init w0
 refine srO ?_
 refine asO ?_
 refine ow_nil ?_
 refine srO ?_
 refine asO ?_
 refine ow_nil ?_
 refine wc_seq ?_
 refine srO ?_
 refine mvO ?_
 refine ow_len rfl rfl (tyAt rfl) rfl ?_
 refine mvO ?_
 refine ow_nil ?_
 refine wc_block ?_
 refine wc_loopS [2, 5, 8, 9, 10, 11, 12, 13, 14, 15, 16] (fun (s : Nat) e => upd e 8 (.int .i64 (s : Int))) (fun s D w => D = [] ∧ s ≤ vs.length ∧ orZ vs = orZ (vs.drop s) ∧ St Pu w0 w [] []) (fun s _ => vs.length - s) 0 (lvO) ⟨rfl, Nat.zero_le _, rfl, H⟩ ?_
 clear H
 rintro i j D w ⟨rfl, hi, hz, H⟩
 refine srO ?_
 refine ow_lss rfl rfl rfl ?_
 refine ow_nil ?_
 refine wc_seq ?_
 refine wc_cond_dec rfl (fun h => ?_) (fun h => ?_) <;> try dsimp only at h
 ·have hlt : i < vs.length := by omega
  clear h
  have hsx := hs
  obtain ⟨bq, oq, rfl⟩ := hs.some_of (by simp; omega)
  have hd := orZ_drop hlt
  refine wc_skip ?_
  refine wc_seq ?_
  refine wc_block ?_
  refine srO ?_
  refine ow_idx1 (j := i) rfl (tyAt rfl) rfl (tyAt rfl) rfl rfl rfl hlt rfl ?_
  refine ldO rfl ((H.oldSl hsx).int hlt) ?_
  refine asO ?_
  refine ow_nil ?_
  refine srO ?_
  refine mvO ?_
  refine mvO ?_
  refine ow_neq rfl rfl rfl ?_
  refine ow_nil ?_
  refine wc_cond_dec rfl (fun h => ?_) (fun h => ?_) <;> try dsimp only at h
  ·refine srO ?_
   refine mvO ?_
   refine asO ?_
   refine ow_nil ?_
   refine wc_ret ?_
   obtain ⟨w, hT, H⟩ := H.takes Tryz.prog
   refine ⟨.inr rfl, w, hT, _, .tmp .nil, ?_⟩
   rw [if_pos h] at hd
   exact ⟨by rw [hz, hd]; rfl, H⟩
  ·refine wc_skip ?_
   refine wc_region ?_
   refine adO ?_
   refine mvO ?_
   refine ow_nil ?_
   rw [if_neg h] at hd
   exact ⟨i + 1, lvO, ofO, ⟨rfl, hlt, hz.trans hd, H⟩, by omega⟩
 ·have hi' : i = vs.length := by omega
  subst hi'
  rw [List.drop_length] at hz
  refine wc_exit ?_
  refine srO ?_
  refine mvO ?_
  refine asO ?_
  refine ow_nil ?_
  refine wc_ret ?_
  obtain ⟨w, hT, H⟩ := H.takes Tryz.prog
  refine ⟨.inr rfl, w, hT, _, .tmp .nil, ?_⟩
  exact ⟨by rw [hz]; rfl, H⟩
theorem lex_ok {α : Type} {l1 l2 : α → α → Bool} (o1 : LessOk l1) (o2 : LessOk l2) : LessOk fun a b => l1 a b || (!l1 b a && l2 a b) := ⟨fun {a b} h => by
 cases h1 : l1 a b with
 | true => rw [o1.asym h1]; simp [h1]
 | false =>
  rw [h1] at h
  cases h2 : l1 b a with
  | true => rw [h2] at h; simp at h
  | false => rw [h2] at h; simp at h; simp [h1, h2, o2.asym h], fun {a b c} h1 h2 => by
 have k1 : l1 a b = false ∧ (l1 b a = true ∨ l2 a b = false) := by revert h1; cases l1 a b <;> cases l1 b a <;> cases l2 a b <;> simp
 have k2 : l1 b c = false ∧ (l1 c b = true ∨ l2 b c = false) := by revert h2; cases l1 b c <;> cases l1 c b <;> cases l2 b c <;> simp
 have hac := o1.ntr k1.1 k2.1
 cases hca : l1 c a with
 | true => simp [hac, hca]
 | false =>
  have e1 : l1 b a = false := o1.ntr k2.1 hca
  have e2 : l1 c b = false := o1.ntr hca k1.1
  have e3 := k1.2.resolve_left (by rw [e1]; decide)
  have e4 := k2.2.resolve_left (by rw [e2]; decide)
  simp [hac, hca, o2.ntr e3 e4]⟩
def evLt (a b : EvV) : Bool := ltI a.at_ b.at_ || (!ltI b.at_ a.at_ && (ltS a.to b.to || (!ltS b.to a.to && ltI a.val b.val)))
theorem evLt_ok : LessOk evLt := lex_ok (lessOk_key ltI_ok fun x : EvV => x.at_) (lex_ok (lessOk_key ltS_ok fun x : EvV => x.to) (lessOk_key ltI_ok fun x : EvV => x.val))
theorem evLt_eq (a b : EvV) : decide (orZ [cmpZ ltI a.at_ b.at_, cmpZ ltS a.to b.to, cmpZ ltI a.val b.val] < 0) = evLt a b := by
 unfold evLt cmpZ orZ orZ orZ orZ
 cases ltI a.at_ b.at_ <;> cases ltI b.at_ a.at_ <;> cases ltS a.to b.to <;> cases ltS b.to a.to <;> cases ltI a.val b.val <;> cases ltI b.val a.val <;> rfl
theorem ahead_ok : LessC Tryz.prog evC evLt (.func (.func 37) #[] #[]) none [] := by
 refine ⟨_, _, _, rfl, ent (by kernel_rfl), fun x y w0 _ => ?_⟩
 refine callsV_of Tryz.func37 rfl rfl ?_
 have H := St.init w0
 refine srO ?_
 refine ow_box (l := evC x) H rfl rfl rfl (fun bx w H => ?_)
 refine ow_box (l := evC y) H rfl rfl rfl (fun bY w H => ?_)
 refine asO ?_
 refine ow_nil ?_
 refine wc_seq ?_
 refine dkO (fun w => St Pu w0 w [.row bY 66 (evC y), .row bx 66 (evC x)] []) 99 ?_
 replace H := H.drew
 refine tkF 0 ?_
 refine tkF 2 ?_
 refine tkF 5 ?_
 refine tkF 7 ?_
 refine tkF 10 ?_
 refine tkF 12 ?_
 refine tkL 1 rfl (fun w H => H.cell (i := 1) rfl rfl) ?_
 refine tkL 6 rfl (fun w H => H.cell (i := 1) rfl rfl) ?_
 refine tkL 11 rfl (fun w H => H.cell (i := 1) rfl rfl) ?_
 refine tkL 3 rfl (fun w H => H.cell (i := 0) rfl rfl) ?_
 refine tkL 8 rfl (fun w H => H.cell (i := 0) rfl rfl) ?_
 refine tkL 13 rfl (fun w H => H.cell (i := 0) rfl rfl) ?_
 apply ak_one (i := 4)
 ·kernel_rfl
 ·rfl
 ·rfl
 refine clO (cmpL_spec x.at_ y.at_ _) ?_
 rintro v w1 ⟨rfl, rfl⟩
 refine ow_nil ⟨fun _ => H, ?_⟩
 apply ak_one (i := 9)
 ·kernel_rfl
 ·rfl
 ·rfl
 refine clO (cmpS_spec x.to y.to _) ?_
 rintro v w1 ⟨rfl, rfl⟩
 refine ow_nil ⟨fun _ => H, ?_⟩
 apply ak_one (i := 14)
 ·kernel_rfl
 ·rfl
 ·rfl
 refine clO (cmpL_spec x.val y.val _) ?_
 rintro v w1 ⟨rfl, rfl⟩
 refine ow_nil ⟨fun _ => H, ?_⟩
 apply ak_one (i := 15)
 ·kernel_rfl
 ·rfl
 ·rfl
 refine ow_buildSlice1 (vs := ints .i64 [cmpZ ltI x.at_ y.at_, cmpZ ltS x.to y.to, cmpZ ltI x.val y.val]) H rfl (tyAt rfl) rfl (tyAt rfl) rfl rfl rfl rfl rfl (by simp [Value.one]) (fun ba w H => ?_)
 refine ow_nil ⟨fun _ => H.drop, ?_⟩
 apply ak_one (i := 16)
 ·kernel_rfl
 ·rfl
 ·rfl
 refine clO (or_spec (some ⟨ba, 0, none⟩) 3 [cmpZ ltI x.at_ y.at_, cmpZ ltS x.to y.to, cmpZ ltI x.val y.val] (by simp) _ (H.rowSl (i := 0) rfl)) ?_
 rintro v w2 ⟨rfl, H'⟩
 replace H := H.call H'
 simp only [List.cons_append, List.nil_append] at H
 clear H'
 replace H := H.drop
 refine ow_nil ⟨fun _ => H, ?_⟩
 apply ak_take (i := 17) rfl rfl rfl rfl (by kernel_rfl) (by assumption)
 ·intro w Q' H hq; refine ow_lss rfl rfl rfl ?_; exact ow_nil hq
 refine tkA 18 ?_
 refine ak_done (by kernel_rfl) ?_
 skip
 refine wc_ret ?_
 obtain ⟨w, hT, H⟩ := H.takes Tryz.prog
 refine ⟨.inr rfl, w, hT, _, .tmp .nil, ?_⟩
 exact ⟨congrArg Value.bool (evLt_eq x y), H.none⟩
theorem clnSt_spec (p : Option Addr) (c : Nat) (ss : List StV) (hn : ss.length ≤ 1000000) (w0 : World) (hs : SlH (hp w0) p (ss.flatMap stC)) :
  CallsV Tryz.prog 33 #[.slice p ss.length c] w0 fun v w => ∃ p' c', v = .slice p' ss.length c' ∧ St Pu w0 w [.app p' ss.length c' 82 5 (ss.flatMap stC)] [] := by
 refine callsV_of Tryz.func33 rfl rfl ?_
 have H := St.init w0
 refine srO ?_
 refine asO ?_
 refine ow_nil ?_
 refine wc_seq ?_
 refine srO ?_
 refine mvO ?_
 refine ow_eqlSn rfl rfl rfl (tyAt rfl) rfl ?_
 refine ow_nil ?_
 cases p with
 | none =>
  have hcs : ss = [] := by
   cases ss with
   | nil => rfl
   | cons c cs => obtain ⟨b, o, h, _⟩ := hs 0 _ rfl; cases h
  subst hcs
  refine wc_cond_true rfl ?_
  refine srO ?_
  refine asO ?_
  refine ow_nil ?_
  refine wc_ret ?_
  obtain ⟨w, hT, H⟩ := H.takes Tryz.prog
  refine ⟨.inr rfl, w, hT, _, .tmp .nil, ?_⟩
  exact ⟨none, 0, rfl, H.nilApp _ _⟩
 | some a =>
  refine wc_cond_false rfl ?_
  refine wc_skip ?_
  refine srO ?_
  refine ow_buildSlice0 H rfl (tyAt rfl) rfl (tyAt rfl) (fun b w H => ?_)
  replace H := H.rowApp (i := 0) (len := 0) (sz := 5) rfl rfl (by omega)
  dsimp only [List.set] at H
  refine mvO ?_
  refine ow_append (i := 0) H rfl rfl (tyAt rfl) rfl (tyAt rfl) rfl (by decide) rfl rfl (H.oldSl hs) (flat_len stC_len ss) (flat_ones stC_one ss) (by dsimp only; omega) (by omega) (fun p2 c2 w H => ?_)
  dsimp only [List.set] at H
  rw [List.nil_append, Nat.zero_add] at H
  refine asO ?_
  refine ow_nil ?_
  refine wc_ret ?_
  obtain ⟨w, hT, H⟩ := H.takes Tryz.prog
  refine ⟨.inr rfl, w, hT, _, .tmp .nil, ?_⟩
  rw [Nat.zero_add]
  exact ⟨p2, c2, rfl, H⟩
end Go.Proofs.YtlkmlppamkidlaaGreat
end
section
namespace Go.Proofs.YtlkmlppamkidlaaGreat
open Go Go.Sx Go.Proofs
structure MdV where
 ver : Int
 procs : List PrV
 links : List LkV
 events : List EvV
 pp : Option Addr
 cp : Nat
 pl : Option Addr
 cl : Nat
 pe : Option Addr
 ce : Nat
def mdC (m : MdV) : List Value := [.int .i64 m.ver, .slice m.pp m.procs.length m.cp, .slice m.pl m.links.length m.cl, .slice m.pe m.events.length m.ce]
theorem mdC_one (x : MdV) : ∀ v ∈ mdC x, Value.oneCell' v = true := by simp [mdC, Value.oneCell']
def PrOk (h : Hp) (x : PrV) : Prop := SlH h x.pv (x.vars.flatMap vrC) ∧ SlH h x.ps (x.steps.flatMap stC)
structure MdOk (h : Hp) (m : MdV) : Prop where
 ps : SlH h m.pp (m.procs.flatMap prC)
 ls : SlH h m.pl (m.links.flatMap lkC)
 es : SlH h m.pe (m.events.flatMap evC)
 each : ∀ x ∈ m.procs, PrOk h x
structure MdSm (m : MdV) : Prop where
 ps : m.procs.length ≤ 100000
 ls : m.links.length ≤ 100000
 es : m.events.length ≤ 100000
 each : ∀ x ∈ m.procs, x.vars.length ≤ 100000 ∧ x.steps.length ≤ 100000
abbrev prCaps (x : PrV) : List Cap := [.app x.pv x.vars.length x.cv 76 2 (x.vars.flatMap vrC), .app x.ps x.steps.length x.cs 82 5 (x.steps.flatMap stC)]
def mdCaps (m : MdV) : List Cap := [.app m.pp m.procs.length m.cp 35 4 (m.procs.flatMap prC), .app m.pl m.links.length m.cl 37 5 (m.links.flatMap lkC), .app m.pe m.events.length m.ce 66 3 (m.events.flatMap evC)] ++ m.procs.flatMap prCaps
theorem St.appSl {M : Nat → Prop} {w0 w : World} {L : List Cap} {D : List Nat} {p : Option Addr} {len cap sz : Nat} {T : TypeId} {cs : List Value} (H : St M w0 w L D) (hm : Cap.app p len cap T sz cs ∈ L) : SlH (hp w) p cs := by
 obtain ⟨i, hi⟩ := List.getElem?_of_mem hm
 exact appOk.sl (H.cap hi)
theorem mdOk_of {M : Nat → Prop} {w0 w : World} {L : List Cap} {D : List Nat} {m : MdV} (H : St M w0 w L D) (hs : ∀ c ∈ mdCaps m, c ∈ L) : MdOk (hp w) m := by
 have h1 : Cap.app m.pp m.procs.length m.cp 35 4 (m.procs.flatMap prC) ∈ mdCaps m := List.mem_append_left _ (.head _)
 have h2 : Cap.app m.pl m.links.length m.cl 37 5 (m.links.flatMap lkC) ∈ mdCaps m := List.mem_append_left _ (.tail _ (.head _))
 have h3 : Cap.app m.pe m.events.length m.ce 66 3 (m.events.flatMap evC) ∈ mdCaps m := List.mem_append_left _ (.tail _ (.tail _ (.head _)))
 have h4 : ∀ x ∈ m.procs, ∀ c ∈ prCaps x, c ∈ mdCaps m := fun x hx c hc => List.mem_append_right _ (List.mem_flatMap.2 ⟨x, hx, hc⟩)
 exact ⟨St.appSl H (hs _ h1), St.appSl H (hs _ h2), St.appSl H (hs _ h3), fun x hx => ⟨St.appSl H (hs _ (h4 x hx _ (.head _))), St.appSl H (hs _ (h4 x hx _ (.tail _ (.head _))))⟩⟩
theorem MdOk.old {w0 w : World} {L : List Cap} {D : List Nat} {m : MdV} (H : St Pu w0 w L D) (h : MdOk (hp w0) m) : MdOk (hp w) m := ⟨H.oldSl h.ps, H.oldSl h.ls, H.oldSl h.es, fun x hx => ⟨H.oldSl (h.each x hx).1, H.oldSl (h.each x hx).2⟩⟩
def PrR (x y : PrV) : Prop := y.name = x.name ∧ y.weight = x.weight ∧ y.vars.Perm x.vars ∧ y.steps = x.steps
structure CanR (m m' : MdV) : Prop where
 ver : m'.ver = m.ver
 ls : m'.links.Perm m.links
 lsr : SrtP (fun a b => ltS a.name b.name) m'.links
 es : m'.events.Perm m.events
 ps : ∃ ys : List PrV, ys.Perm m.procs ∧ SrtP (fun a b => ltS a.name b.name) ys ∧ m'.procs.length = ys.length ∧ ∀ (i : Nat) (x : PrV), ys[i]? = some x → ∃ y, m'.procs[i]? = some y ∧ PrR x y
abbrev cnC (m : MdV) (b1 b2 b3 : Nat) (po : Option Addr) (co : Nat) (q : Option Addr) (cq : Nat) (ys ds : List PrV) : List Cap := [.row b3 26 [.int .i64 m.ver, .slice po ds.length co, .slice none 0 0, .slice none 0 0], .app po ds.length co 35 4 (ds.flatMap prC), .row b2 26 [.int .i64 0, .slice none 0 0, .slice none 0 0, .slice none 0 0], .row b1 26 (mdC m), .app q ys.length cq 35 4 (ys.flatMap prC)]
theorem canon_spec (m : MdV) (hm : MdSm m) (w0 : World) (hok : MdOk (hp w0) m) :
  CallsV Tryz.prog 10 #[.agg ⟨mdC m⟩] w0 fun v w => ∃ m', v = .agg ⟨mdC m'⟩ ∧ CanR m m' ∧ St Pu w0 w (mdCaps m') [] := by
 refine callsV_of Tryz.func10 rfl rfl ?_
 have H := St.init w0
 refine srO ?_
 refine ow_box (l := mdC m) H rfl rfl rfl (fun b1 w H => ?_)
 refine ow_alloc (l := [.int .i64 0, .slice none 0 0, .slice none 0 0, .slice none 0 0]) H rfl (tyAt rfl) rfl (fun b2 w H => ?_)
 refine ow_nil ?_
 refine srO ?_
 refine fdO ?_
 refine ldO rfl (H.cell (i := 1) rfl rfl) ?_
 refine ow_build (l := [.int .i64 m.ver, .slice none 0 0, .slice none 0 0, .slice none 0 0]) (vs := [(0, .int .i64 m.ver)]) rfl (tyAt rfl) rfl (.cons (tyAt rfl) (.cons (tyAt rfl) (.cons (tyAt rfl) (.cons (tyAt rfl) .nil)))) rfl rfl ?_
 refine ow_alloc (l := [.int .i64 0, .slice none 0 0, .slice none 0 0, .slice none 0 0]) H rfl (tyAt rfl) rfl (fun b3 w H => ?_)
 refine ow_storeA (i := 0) (o := 0) (l' := [.int .i64 m.ver, .slice none 0 0, .slice none 0 0, .slice none 0 0]) H (tyAt rfl) rfl rfl rfl rfl (by simp [Value.oneCell']) (Nat.le_refl _) (fun w H => ?_)
 dsimp only [List.set] at H
 rw [row_all] at H
 rotate_left
 ·rfl
 refine ow_nil ?_
 refine wc_seq ?_
 refine srO ?_
 refine fdO ?_
 refine ldO rfl (H.cell (i := 2) rfl rfl) ?_
 refine clO (byNameP_spec m.pp m.cp m.procs hm.ps w (H.oldSl hok.ps)) ?_
 rintro v w1 ⟨q, cq, ys, rfl, hyP, hyS, H'⟩
 replace H := H.call H'
 simp only [List.cons_append, List.nil_append] at H
 clear H'
 have hyl := hyP.length_eq
 replace H := H.nilApp 35 4
 replace H : St Pu w0 w1 (cnC m b1 b2 b3 none 0 q cq ys []) [] := H.pick [2, 0, 3, 4, 1] rfl (by decide)
 replace H : St Pu w0 w1 (cnC m b1 b2 b3 none 0 q cq ys [] ++ ([] : List PrV).flatMap prCaps) [] := H
 refine ow_len rfl rfl (tyAt rfl) rfl ?_
 refine mvO ?_
 refine ow_nil ?_
 refine wc_block ?_
 refine wc_loopS [5, 13, 14, 15, 16, 17, 18, 19, 20, 21, 22, 23, 24, 25, 26, 27, 28, 29, 30, 31] (fun (s : Nat) e => upd e 13 (.int .i64 (s : Int))) (fun s D w => D = [] ∧ s ≤ ys.length ∧ ∃ po co ds, ds.length = s ∧ (∀ i x, i < s → ys[i]? = some x → ∃ y, ds[i]? = some y ∧ PrR x y) ∧ St Pu w0 w (cnC m b1 b2 b3 po co q cq ys ds ++ ds.flatMap prCaps) []) (fun s _ => ys.length - s) 0 (lvO) ⟨rfl, Nat.zero_le _, none, 0, [], rfl, (fun i x h => absurd h (Nat.not_lt_zero _)), H⟩ ?_
 clear H
 rintro i j D w ⟨rfl, hi, po, co, ds, hdl, hds, H⟩
 have hsm := hm.ps
 refine srO ?_
 refine ow_lss rfl rfl rfl ?_
 refine ow_nil ?_
 refine wc_seq ?_
 refine wc_cond_dec rfl (fun h => ?_) (fun h => ?_) <;> try dsimp only at h
 ·have hlt : i < ys.length := by omega
  clear h
  obtain ⟨x, hx⟩ : ∃ x, ys[i]? = some x := ⟨_, List.getElem?_eq_getElem hlt⟩
  have hxm : x ∈ m.procs := hyP.mem_iff.1 (List.mem_of_getElem? hx)
  have hxk := hok.each x hxm
  have hxs := hm.each x hxm
  have hap := H.cap (i := 4) rfl
  obtain ⟨bo, rfl⟩ : ∃ g, q = some ⟨g, 0, none⟩ := appOk.some hap (by rw [flat_len prC_len]; omega)
  clear hap
  refine wc_skip ?_
  refine wc_seq ?_
  refine wc_block ?_
  refine srO ?_
  refine ow_idxK (j := i) (sz := 4) rfl (tyAt rfl) rfl (tyAt rfl) rfl rfl rfl hlt rfl ?_
  refine ow_loadA (l := prC x) rfl (tyAt rfl) rfl rfl rfl (SlH.elem prC_len (appOk.sl (H.cap (i := 4) rfl)) hx) ?_
  refine ow_alloc (l := [.string ⟨#[]⟩, .int .i64 0, .slice none 0 0, .slice none 0 0]) H rfl (tyAt rfl) rfl (fun b5 w H => ?_)
  refine ow_storeA (i := 0) (o := 0) (l' := prC x) H (tyAt rfl) rfl rfl rfl rfl (prC_one x) (Nat.le_refl _) (fun w H => ?_)
  simp only [List.cons_append, List.nil_append, List.set] at H
  rw [row_all] at H
  rotate_left
  ·rfl
  refine ow_nil ?_
  refine srO ?_
  refine fdO ?_
  refine ldO rfl (H.cell (i := 0) rfl rfl) ?_
  refine clO (byNameV_spec x.pv x.cv x.vars hxs.1 w (H.oldSl hxk.1)) ?_
  rintro v w2 ⟨q2, c2, vs, rfl, hvP, _, H'⟩
  replace H := H.call H'
  simp only [List.cons_append, List.nil_append] at H
  clear H'
  refine fdO ?_
  refine ow_store (i := 1) (o := 0 + 2) (v := .slice q2 vs.length c2) H (tyAt rfl) rfl rfl rfl rfl rfl (by show 0 + 2 < 4; omega) (fun w H => ?_)
  dsimp only [List.set, prC, Nat.zero_add] at H
  refine ow_nil ?_
  refine srO ?_
  refine fdO ?_
  refine ldO rfl (H.cell (i := 1) rfl rfl) ?_
  refine clO (clnSt_spec x.ps x.cs x.steps (Nat.le_trans hxs.2 (by decide)) w (H.oldSl hxk.2)) ?_
  rintro v w3 ⟨q3, c3, rfl, H'⟩
  replace H := H.call H'
  simp only [List.cons_append, List.nil_append] at H
  clear H'
  refine fdO ?_
  refine ow_store (i := 2) (o := 0 + 3) (v := .slice q3 x.steps.length c3) H (tyAt rfl) rfl rfl rfl rfl rfl (by show 0 + 3 < 4; omega) (fun w H => ?_)
  dsimp only [List.set, Nat.zero_add] at H
  obtain ⟨d, hd⟩ : ∃ d : PrV, d = ⟨x.name, x.weight, vs, x.steps, q2, c2, q3, c3⟩ := ⟨_, rfl⟩
  have hdc : prC d = [.string x.name, .int .i64 x.weight, .slice q2 vs.length c2, .slice q3 x.steps.length c3] := by rw [hd]; rfl
  rw [← hdc] at H
  refine ow_nil ?_
  refine wc_region ?_
  refine fdO ?_
  refine ldO rfl (H.cell (i := 3) rfl rfl) ?_
  refine ow_loadA (l := prC d) rfl (tyAt rfl) rfl rfl rfl (H.cells (i := 2) (o := 0) (m := 4) rfl rfl) ?_
  refine ow_buildSliceA (zs := [.string ⟨#[]⟩, .int .i64 0, .slice none 0 0, .slice none 0 0]) (l := prC d) (vs := [(0, .agg ⟨prC d⟩)]) H rfl (tyAt rfl) rfl (tyAt rfl) rfl rfl rfl (by kernel_rfl) rfl (fun ea w H => ?_)
  refine ow_append (i := 5) H rfl rfl (tyAt rfl) rfl (tyAt rfl) rfl (by decide) rfl rfl (H.rowSl (i := 0) rfl) rfl (prC_one d) (by dsimp only; omega) (by omega) (fun p6 c6 w H => ?_)
  simp only [List.set] at H
  replace H := H.drop
  refine fdO ?_
  refine ow_store (i := 3) (o := 0 + 1) (v := .slice p6 (ds.length + 1) c6) H (tyAt rfl) rfl rfl rfl rfl rfl (by show 0 + 1 < 4; omega) (fun w H => ?_)
  dsimp only [List.set, Nat.zero_add] at H
  refine ow_nil ?_
  refine wc_region ?_
  refine adO ?_
  refine mvO ?_
  refine ow_nil ?_
  refine ⟨i + 1, lvO, ofO, ⟨rfl, hlt, p6, c6, ds ++ [d], by rw [List.length_append, hdl]; rfl, fun k z hk hz => ?_, ?_⟩, by omega⟩
  ·by_cases hki : k < i
   ·obtain ⟨y, hy, hr⟩ := hds k z hki hz
    exact ⟨y, by rw [List.getElem?_append_left (by omega)]; exact hy, hr⟩
   ·have : k = i := by omega
    subst this
    rw [hx] at hz; cases hz
    refine ⟨d, by rw [← hdl, List.getElem?_concat_length], ?_⟩
    rw [hd]
    exact ⟨rfl, rfl, hvP, rfl⟩
  ·rw [List.flatMap_append, List.flatMap_singleton]
   unfold cnC
   rw [List.length_append, List.length_singleton, List.flatMap_append, List.flatMap_singleton]
   have e1 : prCaps d = [.app q2 vs.length c2 76 2 (vs.flatMap vrC), .app q3 x.steps.length c3 82 5 (x.steps.flatMap stC)] := by rw [hd]
   rw [e1]
   replace H := H.sub (.cons₂ _ (.cons₂ _ (.cons _ (List.Sublist.refl _))))
   refine H.perm ?_
   refine (List.perm_append_comm (l₁ := [_, _])).trans ?_
   rw [← List.append_assoc]
   exact List.Perm.append_left _ (List.Perm.swap _ _ _)
 have hi' : i = ys.length := by omega
 subst hi'
 clear h
 simp only [List.cons_append, List.nil_append] at H
 refine wc_exit ?_
 refine srO ?_
 refine fdO ?_
 refine ldO rfl (H.cell (i := 3) rfl rfl) ?_
 refine clO (byNameK_spec m.pl m.cl m.links hm.ls w (H.oldSl hok.ls)) ?_
 rintro v w4 ⟨ql, cl, ls, rfl, hlP, hlS, H'⟩
 replace H := H.call H'
 simp only [List.cons_append, List.nil_append] at H
 clear H'
 refine fdO ?_
 refine ow_store (i := 1) (o := 0 + 2) (v := .slice ql ls.length cl) H (tyAt rfl) rfl rfl rfl rfl rfl (by show 0 + 2 < 4; omega) (fun w H => ?_)
 dsimp only [List.set, Nat.zero_add] at H
 refine ow_nil ?_
 refine srO ?_
 refine fdO ?_
 refine ldO rfl (H.cell (i := 4) rfl rfl) ?_
 refine clO (sortE_spec evC_len evC_one evLt_ok ahead_ok m.pe m.ce m.events hm.es w (H.oldSl hok.es) (SlH.nil _ _)) ?_
 rintro v w5 ⟨qe, ce, es, rfl, heP, _, H'⟩
 replace H := H.call H'
 simp only [List.cons_append, List.nil_append] at H
 clear H'
 refine fdO ?_
 refine ow_store (i := 2) (o := 0 + 3) (v := .slice qe es.length ce) H (tyAt rfl) rfl rfl rfl rfl rfl (by show 0 + 3 < 4; omega) (fun w H => ?_)
 dsimp only [List.set, Nat.zero_add] at H
 obtain ⟨m2, hm2⟩ : ∃ m2 : MdV, m2 = ⟨m.ver, ds, ls, es, po, co, ql, cl, qe, ce⟩ := ⟨_, rfl⟩
 have hmc : mdC m2 = [.int .i64 m.ver, .slice po ds.length co, .slice ql ls.length cl, .slice qe es.length ce] := by rw [hm2]; rfl
 rw [← hmc] at H
 refine ow_nil ?_
 refine srO ?_
 refine ow_loadA (l := mdC m2) rfl (tyAt rfl) rfl rfl rfl (H.cells (i := 2) (o := 0) (m := 4) rfl rfl) ?_
 refine ow_storeA (i := 4) (o := 0) (l' := mdC m2) H (tyAt rfl) rfl rfl rfl rfl (mdC_one m2) (Nat.le_refl _) (fun w H => ?_)
 dsimp only [List.set] at H
 rw [row_all] at H
 rotate_left
 ·rfl
 refine ow_nil ?_
 refine wc_ret ?_
 obtain ⟨w, hT, H⟩ := H.takes Tryz.prog
 refine ⟨.inr rfl, w, hT, _, .cell rfl (run_loadVarA (tyAt rfl) rfl rfl (H.cells (i := 4) (o := 0) (m := 4) rfl rfl)) .nil, ?_⟩
 refine ⟨m2, rfl, ?_, ?_⟩
 ·rw [hm2]
  exact ⟨rfl, hlP, hlS, heP, ys, hyP, hyS, hdl, fun i x hx => hds i x (List.getElem?_eq_some_iff.1 hx).1 hx⟩
 ·have e2 : mdCaps m2 = [.app po ds.length co 35 4 (ds.flatMap prC), .app ql ls.length cl 37 5 (ls.flatMap lkC), .app qe es.length ce 66 3 (es.flatMap evC)] ++ ds.flatMap prCaps := by rw [hm2]; rfl
  rw [e2]
  refine (H.sub (.cons₂ _ (.cons₂ _ (.cons _ (.cons₂ _ (.cons _ (.cons _ (.cons _ (List.Sublist.refl _))))))))).perm ?_
  exact ((List.Perm.swap _ _ _).trans (List.Perm.refl _)).trans (by
   refine ((List.Perm.cons _ (List.Perm.swap _ _ _)).trans (List.Perm.swap _ _ _)).trans (List.Perm.cons _ (List.Perm.refl _)))
end Go.Proofs.YtlkmlppamkidlaaGreat
end
