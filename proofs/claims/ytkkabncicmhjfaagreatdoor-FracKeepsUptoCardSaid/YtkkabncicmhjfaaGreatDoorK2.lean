/- Parts Sxw, IntB, IntC, IntD, IntE, Pop, Small, Power, Root, Zg, Sxb, Ab, Sxg, Sxk, Ac, Upto, Stays, Zs, UptoZ, App, Rx, Bo, Rxa, Zh, Bz, Li, Rxb, Rxc, Rs, Str, Frac, Law8, Law8b, Cont, Zlb, Fr, Rec, Re, Rc8f, Ref1, Ref1b, Ref2, Ref1d, joined. -/
import Derived.Test.YtkkabncicmhjfaaGreatDoorK1
import Derived.WalkSmall
import Derived.Test.YtkkabncicmhjfaaGreatDoorRows
import Derived.WalkKit
import Derived.ProofKit
import Derived.OpenShut
import Derived.JoinedCond
import Derived.ChangeSame
import Derived.ChangeSlices
import Derived.ChangeStays
import Derived.Deep.Slices
import Derived.DataShut
import Derived.ArgAppend
import Derived.Laws.BytesString
import Derived.Laws.Concat
import Derived.Laws.RangeAny
import Derived.ChangeMaps5

open Go renaming Addr → a7, BinOp → jU, Calls → aQ, Edge → fL, Ending → eF, Exit → dX, IntKind → j7, Next → gS, Oper → bE, Operand → cR, Program → cO, TypeId → aS, Value → aF, World → a6, bodyPost_ret → kE, run_underlying → nL
open Go.Addr renaming add → pI
open Array renaming getElem?_eq_some_iff → qB, replicate → uN
open BitVec renaming ofInt → rC
open Bool renaming and_eq_true → fB, or_eq_true → pH
open Go.Builtin renaming append_ → pG
open Go.Instr renaming makeSlice → sS
open Int renaming emod_nonneg → kS, natCast_mul → oH, toNat_natCast → jB
open Go.IntKind renaming bits → wT, signed → wS, wrap → yY
open List renaming all_eq_true → gK, append_nil → m7, cons_append → wR, contains_iff_mem → lL, drop_eq_getElem_cons → pF, drop_zero → iN, getD_eq_getElem?_getD → bL, getElem?_drop → nO, getElem?_eq_getElem → cT, getElem?_eq_none → jT, getElem?_eq_some_iff → gU, getElem?_map → jM, getElem_mem → oG, getElem_of_mem → wQ, length_append → f8, length_cons → fO, length_drop → iK, length_take → eB, map_cons → jS, map_drop → wP, map_nil → kR, map_take → m6, map_toArray → pE, mem_map → m4, mem_range → j5, range → eI, replicate → dF
open Nat renaming add_assoc → k8, add_mul → eE, add_sub_cancel → oF, add_zero → fN, beq → q8, div_le_self → gN, div_lt_self → m0, eq_of_beq_eq_true → sQ, eq_zero_or_pos → lT, le_of_not_lt → rA, le_refl → aU, le_trans → a8, lt_mul_div_succ → sP, lt_of_lt_of_le → dA, lt_of_not_le → pC, lt_or_ge → kQ, min_eq_left → iJ, mod_add_div → kF, mod_eq_of_lt → iW, mod_lt → g7, mul_add → dE, mul_assoc → cU, mul_comm → dH, mul_le_mul → kP, mul_le_mul_left → gT, mul_le_mul_right → fC, mul_one → eH, mul_succ → sO, mul_zero → iV, pow_add → eS, pow_le_pow_right → fZ, pow_pos → iI, pow_succ → dS, sub_add_cancel → lJ, zero_add → eR, zero_le → bX, zero_mul → wL
open Ne renaming symm → mP
open Go.Next renaming value → iE
open Go.Oper renaming upon → nN
open Option.some renaming inj → kO, injEq → f7
open Or renaming inl → cJ, inr → cN
open Go.Region renaming binds → kN, wanted → wK
open Go.Result renaming andThen_ok → fK
open Go.Sem renaming run_bind → cV, run_pure → iH
open Go.Proofs.Tryz renaming prog → aM
open Go.Value renaming int → eL
open Go.World renaming block_lt_of_cell? → wI, setCell → wH
namespace Go.Proofs.YtkkabncicmhjfaaGreatDoor
set_option maxHeartbeats 8000000
set_option maxRecDepth 20000
variable {A A' Aa Ab B C D OA PA:Option a7}{H:Type}{K L N X a ac an b b' base base' bytes c ca cap cap' cb d fuel g g' gp i id j j1 j2 k lb m n n' na oc off on pn q s' unit width x3 x4 x5 x6:Nat}{P:cO}{T T' e t t' ty:aS}{W W' w w' w0 w1 wt wt':a6}{acc l':Fr}{af:Array fL}{args cs tmps:Array aF}{bs ds es l ms st xs ys:List Nat}{dss rl:List (List Nat)}{dst:Option Tmp}{er p' q' r u x y z:Int}{f:FuncId}{fn:Func}{fr:Nat×Nat}{gd:Option (Nat×Bool)}{listed:Array Bool}{news us vs:List aF}{o:jU}{ol rest rest':List bE}{op:Op}{ops:Array bE}{p pa pv:List MemPlace}{pos:String}{ps:List (Nat×Nat)}{s sa sb:Bool}{ts:Array aS}{v v1 v2:aF}{zs:List Int}
section
open Go.RowKit
theorem Rd.at (h:Rd w A n c xs)(hi:i<n):∃p,A.map (·.add (i*1))=some p∧w.cell? p=some (t9 (xs.getD i 0:Nat))∧xs.getD i 0≤18446744073709551615:=by
 obtain⟨a,x,rfl,f,hb,hc⟩:=h.get hi;refine⟨a.add i,by rw [eH];rfl,?_,by rw [f.out];exact hb⟩;rw [f.out];exact hc
theorem Rd.updL (h:Rd w A n c xs)(e:Upd g w w')(hne:0<c→∀a,A=some a→a.block≠g):Rd w' A n c xs:=
 ⟨⟨h.rv.len,h.rv.le,h.rv.max,fun i hi=>by
  obtain⟨a,f,hc⟩:=h.rv.get i hi
  exact⟨a,f,e.cell hc (by rw [vY];exact hne (by have:=h.rv.le;omega) a f)⟩,fun a f hc=>dA (h.rv.blk a f hc) e.size⟩,h.wf⟩
theorem eG (g i:Nat):(some (⟨g,0,none⟩:a7)).map (·.add (i*1))=some ⟨g,i,none⟩:=by
 rw [eH];show some ((⟨g,0,none⟩:a7).add i)=_;rw [jI,eR]
section
variable {P:cO}{Q:dX→Act→a6→Prop}{n:Nat}{l:Fr}{w:a6}{ops:Array bE}{rest:List bE}{d:Nat}{op:Op}{ty:aS}{pos:String}{af:Array fL}{gd:Option (Nat×Bool)}
theorem K3 {s:Nat}{k:j7}{i:Int}{p:a7}(hT:P.underlying t=some (.slice e))(hs:∀w,(sizeOf e).run P w= .ok s w)(hi:i=(j:Int))(hj:j<m)(hp:A.map (·.add (j*s))=some p):(Instr.indexAt t (up A m c) (.int k i)).run P w= .ok (.pointer (some p)) w:=by
 subst hi;cases A with
 | none=>cases hp
 | some a=>
  have h:=K1 (P:=P) (w:=w) (t:=t) (e:=e) (s:=s) (m:=m) (c:=c) (a:=a) (k:=k) (i:=(j:Int)) hT hs i9 i9
  rw [h]
  rw [jB]
  injection hp with hp
  rw [←hp]
theorem D7 (hw:dD ops l gd=some true){x y:cR}{s:Nat}{k:j7}{i:Int}(hx:cB l x=some (up A m c))(hy:cB l y=some (.int k i))(hT:P.underlying t=some (.slice e))(hs:∀w,(sizeOf e).run P w= .ok s w)(j:Nat)(hi:i=(j:Int))(hj:j<m)(p:a7)(hp:A.map (·.add (j*s))=some p)(hn:d<n)(h:wl P ops Q n rest ((d,.pointer (some p))::l) w):wl P ops Q n (⟨some d,.indexAddr t x y,ty,pos,af,gd⟩::rest) l w:=
 gO hw hn (fun a' f=>by
  have e:(Instr.indexAt t (a'.eval x) (a'.eval y)).run P w= .ok (.pointer (some p)) w:=by rw [f.ev hx,f.ev hy];exact K3 hT hs hi hj hp
  show ((Instr.indexAt t (a'.eval x) (a'.eval y)>>=fun r=>pure (iE r):Sem gS)).run P w=_
  rw [cV,e];rfl) h
theorem gG {x y:cR}{s:Nat}{k:j7}{i:Int}(hx:cB l x=some (up A m c))(hy:cB l y=some (.int k i))(hT:P.underlying t=some (.slice e))(hs:∀w,(sizeOf e).run P w= .ok s w)(j:Nat)(hi:i=(j:Int))(p:a7)(hp:A.map (·.add (j*s))=some p)(hj:j<m:=by omega):jA P n l ⟨dst,.indexAddr t x y,ty,pos,af,gd⟩ w (.value (.pointer (some p))) w:=fun a' f=>by
 have e:(Instr.indexAt t (a'.eval x) (a'.eval y)).run P w= .ok (.pointer (some p)) w:=by rw [f.ev hx,f.ev hy];exact K3 hT hs hi hj hp
 show ((Instr.indexAt t (a'.eval x) (a'.eval y)>>=fun r=>pure (iE r):Sem gS)).run P w=_
 rw [cV,e];rfl
theorem mZ {x y:cR}{k:j7}{a b:Int}(hx:cB l x=some (.int k a))(hy:cB l y=some (.int k b))(c:Bool)(hc:cQ o a b=some c):jA P n l ⟨dst,.binOp o t x y t',ty,pos,af,gd⟩ w (.value (.bool c)) w:=fun a' f=>by
 have e:((do eqGuard o t x y (a'.eval x) (a'.eval y);binOp o t (a'.eval x) (a'.eval y)):Sem aF).run P w= .ok (.bool c) w:=by
  rw [f.ev hx,f.ev hy];exact K4 hc
 show ((((do eqGuard o t x y (a'.eval x) (a'.eval y);binOp o t (a'.eval x) (a'.eval y)):Sem aF)>>=fun r=>pure (iE r)):Sem gS).run P w=_
 rw [cV,e];rfl
theorem nW {x y:cR}{k:j7}{a b:Int}(hx:cB l x=some (.int k a))(hy:cB l y=some (.int k b))(c:Int)(hc:eY o k a b=some c):jA P n l ⟨dst,.binOp o t x y t',ty,pos,af,gd⟩ w (.value (.int k c)) w:=fun a' f=>by
 have e:((do eqGuard o t x y (a'.eval x) (a'.eval y);binOp o t (a'.eval x) (a'.eval y)):Sem aF).run P w= .ok (.int k c) w:=by
  rw [f.ev hx,f.ev hy];exact E2 hc
 show ((((do eqGuard o t x y (a'.eval x) (a'.eval y);binOp o t (a'.eval x) (a'.eval y)):Sem aF)>>=fun r=>pure (iE r)):Sem gS).run P w=_
 rw [cV,e];rfl
theorem xE (hT:∀w,(sizeOf T).run P w= .ok 1 w)(hv:v.cells= #[v])(hb:Bk w g T' vs)(hle:off<vs.length)(h1:v.oneCell'=true)(us':List aF)(he:vs.set off v=us'):∃w',(storeVar T ⟨g,off,none⟩ v).run P w= .ok () w'∧Bk w' g T' us'∧Upd g w w'∧w'.heap.size=w.heap.size:=by
 have f:=hb.set off v;rw [he] at f;refine⟨w.setCell ⟨g,off,none⟩ v,?_,f,(Upd.refl g w).setCell off v,by simp [wH]⟩;unfold storeVar;rw [cV];show ((sizeOf T).run P w).andThen _=_;rw [hT w];simp only [fK,hv,List.size_toArray,fO,List.length_nil,ne_eq,not_true,eR,if_false];show ((store ((⟨g,off,none⟩:a7).add 0) v>>=fun _=>storeCells ⟨g,off,none⟩ [] (0+1):Sem Unit)).run P w=_;rw [jI,fN,cV,DX (hb.cell hle) (hb.frozen off) h1];rfl
theorem mT {z:aF}{x y:cR}(hw:dD ops l gd=some true){i:Int}(hx:cB l x=some (no i))(hy:cB l y=some (no i))(hi:i=(k:Int))(ht:P.underlying t=some (.slice e))(hinfo:(P.info? e).map (fun i=>(i.zero,i.size,i.bytes))=some (some z,1,bytes))(hz:z.cells= #[z])(h:∀g w',w.heap.size=g→Bk w' g e (dF k z)→Ext w w'→wl P ops Q n rest ((d,up (some ⟨g,0,none⟩) k k)::l) w')(hby:bytes≤64:=by decide)(hk:k≤1099511627776:=by omega)(hn:d<n:=by decide):wl P ops Q n (⟨some d,.makeSlice t x y,ty,pos,af,gd⟩::rest) l w:=by
 subst hi;have hm:=mB (P:=P) ht hinfo hz hby (k:Int) i9 i9 w;rw [jB] at hm;refine gO hw hn (fun a' f=>?_) (h _ (w.alloc (.cells (zc z k) e)) J (Bk.new' _ _ _) ((Ext.refl w).alloc _));have e':(sS t (a'.eval x) (a'.eval y)).run P w= .ok (up (some ⟨w.heap.size,0,none⟩) k k) (w.alloc (.cells (zc z k) e)):=by rw [f.ev hx,f.ev hy];exact hm
 show ((sS t (a'.eval x) (a'.eval y)>>=fun r=>pure (iE r):Sem gS)).run P w=_;rw [cV,e'];rfl
end
theorem jF (hT:∀w,(isAgg T).run P w= .ok false w)(hb:Bk w g T' (l.map bF))(hi:i<l.length):(loadVar T ⟨g,i,none⟩).run P w= .ok (t9 (l.getD i 0:Nat)) w:=by
 refine cE hT hb ?_;simp [bL,cT hi]
theorem jQ {x:Nat}(h:l.length=N):(l.set i x).length=N:=by rw [List.length_set];exact h
theorem iQ {f:Nat→aF}(h:i<l.length):i<(l.map f).length:=by rw [List.length_map];exact h
theorem a3a {A B:Int}(ha:A=(a:Int))(hb:B=(b:Int))(h:a<b):cQ .lss A B=some true:=by subst ha hb;exact xU i9
theorem a3b {A B:Int}(ha:A=(a:Int))(hb:B=(b:Int))(h:b≤a):cQ .lss A B=some false:=by subst ha hb;exact tI
theorem a3c {A B:Int}(ha:A=(a:Int))(hb:B=(b:Int))(h:a≤b):cQ .leq A B=some true:=by subst ha hb;exact NH i9
theorem a3d {A B:Int}(ha:A=(a:Int))(hb:B=(b:Int))(h:b<a):cQ .leq A B=some false:=by subst ha hb;exact NI i9
theorem a3e {A B:Int}(ha:A=(a:Int))(hb:B=(b:Int))(h:b<a):cQ .gtr A B=some true:=by subst ha hb;exact qQ
theorem a3f {A B:Int}(ha:A=(a:Int))(hb:B=(b:Int))(h:a≤b):cQ .gtr A B=some false:=by subst ha hb;exact pW
theorem a3g {A B:Int}(ha:A=(a:Int))(hb:B=(b:Int))(h:b≤a):cQ .geq A B=some true:=by subst ha hb;exact tR
theorem a3h {A B:Int}(ha:A=(a:Int))(hb:B=(b:Int))(h:a<b):cQ .geq A B=some false:=by subst ha hb;exact mJ
theorem a3i {A B:Int}(ha:A=(a:Int))(hb:B=(b:Int))(h:a=b):cQ .eql A B=some true:=by subst ha hb;exact fE i9
theorem a3j {A B:Int}(ha:A=(a:Int))(hb:B=(b:Int))(h:a≠b):cQ .eql A B=some false:=by subst ha hb;exact gC i9
theorem a28 {A B:Int}(ha:A=(a:Int))(hb:B=(b:Int))(h:a≠b):cQ .neq A B=some true:=by subst ha hb;exact pO i9
theorem a29 {A B:Int}(ha:A=(a:Int))(hb:B=(b:Int))(h:a=b):cQ .neq A B=some false:=by subst ha hb;exact pP i9
theorem a3F {A B:Int}(ha:A=(a:Int))(hb:B=(b:Int))(h:a+b≤18446744073709551615):eY .add .u64 A B=some ((a+b:Nat):Int):=by
 subst ha hb;simp only [eY,f7];rw [←Int.natCast_add];exact IntWalk.u64_in _ ⟨by omega,by omega⟩
theorem a3A {A B:Int}(ha:A=(a:Int))(hb:B=(b:Int))(h:b≤a)(h2:a≤18446744073709551615):eY .sub .u64 A B=some ((a-b:Nat):Int):=by
 subst ha hb;simp only [eY,f7];rw [show (a:Int)-(b:Int)=((a-b:Nat):Int) by omega];exact IntWalk.u64_in _ ⟨by omega,by omega⟩
theorem a3E {A B:Int}(ha:A=(a:Int))(hb:B=(b:Int))(h:a*b≤18446744073709551615):eY .mul .u64 A B=some ((a*b:Nat):Int):=by
 subst ha hb;simp only [eY,f7];rw [←oH];exact IntWalk.u64_in _ ⟨by omega,by omega⟩
theorem a3C {A B:Int}(ha:A=(a:Int))(hb:B=(b:Int))(h:b≠0)(h2:a≤18446744073709551615):eY .quo .u64 A B=some ((a/b:Nat):Int):=by
 subst ha hb;have e:((a:Int)).tdiv (b:Int)=((a/b:Nat):Int):=rfl;have E:a/b≤a:=gN a b;have f:(0:Int)≤((a/b:Nat):Int):=Int.natCast_nonneg _;have o:((a/b:Nat):Int)≤(a:Int):=Int.ofNat_le.2 E;simp only [eY];rw [if_neg i9,e,f7];generalize ((a/b:Nat):Int)=q at f o;exact IntWalk.u64_in _ ⟨by omega,by omega⟩
theorem a3B {k:j7}{A B:Int}(ha:A=(a:Int))(hb:B=(b:Int))(h:b≠0):eY .rem k A B=some ((a%b:Nat):Int):=by
 subst ha hb;have e:((a:Int)).tmod (b:Int)=((a%b:Nat):Int):=rfl;simp only [eY];rw [if_neg i9,e]
theorem a3P {A B:Int}(ha:A=(a:Int))(hb:B=(b:Int))(h:a+b≤9223372036854775807):eY .add .i64 A B=some ((a+b:Nat):Int):=by
 subst ha hb;exact vZ
theorem a3L {A B:Int}(ha:A=(a:Int))(hb:B=(b:Int))(h:b≤a)(h2:a≤9223372036854775807):eY .sub .i64 A B=some ((a-b:Nat):Int):=by
 subst ha hb;exact fS i9
theorem a3N {A B:Int}(ha:A=(a:Int))(hb:B=(b:Int))(h:a*b≤9223372036854775807):eY .mul .i64 A B=some ((a*b:Nat):Int):=by
 subst ha hb;exact yI (by rw [←oH]) i9 i9
theorem a3M {A B:Int}(ha:A=(a:Int))(hb:B=(b:Int))(h:b≠0)(h2:a≤9223372036854775807):eY .quo .i64 A B=some ((a/b:Nat):Int):=by
 subst ha hb;have E:a/b≤a:=gN a b;have f:(0:Int)≤((a/b:Nat):Int):=Int.natCast_nonneg _;have o:((a/b:Nat):Int)≤(a:Int):=Int.ofNat_le.2 E;refine a3I i9 J ?_ ?_
 ·show _≤((a/b:Nat):Int);generalize ((a/b:Nat):Int)=q at f o;omega
 show ((a/b:Nat):Int)≤_;generalize ((a/b:Nat):Int)=q at f o;omega
theorem bZ (w:a6):(sizeOf 43).run aM w= .ok 1 w:=by kernel_rfl
theorem dK (w:a6):(isAgg 43).run aM w= .ok false w:=by kernel_rfl
theorem cH:Tryz.prog.underlying 22=some (.slice 43):=Tryz.underlying22
theorem KD {a b c d:aF}{s s' u:Tmp}(hf:fn.results= #[.cell s 24,.cell s' 24,.tmp u])(hs:tmps.getD s undef= i5 g 0)(hs':tmps.getD s' undef= i5 g' 0)(hu:tmps.getD u undef=v)(h:Bk w g t [a,b])(h':Bk w g' t' [c,d]):(results fn tmps).run aM w= .ok (.tuple #[.agg #[a,b],.agg #[c,d],v]) w:=by
 obtain⟨h1,h2,_,_⟩:=h.two;obtain⟨h3,h4,_,_⟩:=h'.two;have hs2:tmps[s]?.getD undef= i5 g 0:=by simpa using hs
 have hs3:tmps[s']?.getD undef= i5 g' 0:=by simpa using hs'
 have hu2:tmps[u]?.getD undef=v:=by simpa using hu
 simp [results,hf,hs2,hs3,hu2,loadVar,loadCells,loadCellsFrom,go_sem,h1,h2,h3,h4]
theorem Bk.two_far {l:List aF}(h:Bk w g t l)(hne:g≠g')(u v:aF):Bk ((w.setCell ⟨g',0,none⟩ u).setCell ⟨g',1,none⟩ v) g t l:=(h.far (p:=⟨g',0,none⟩) hne u).far (p:=⟨g',1,none⟩) hne v
theorem CY {t:Bool}(hx:Zi w s A n cap x)(hl:n≤274877906944)(hy:Zi w t B m cap' y)(hl':m≤274877906944):aQ aM 77 #[O s A n cap,O t B m cap'] w (nK w (x+y)):=by
 obtain⟨xs,hr,rfl⟩:=hx;obtain⟨ys,hq,rfl⟩:=hy
 go_enter Tryz.func77,Tryz.ntmps77
 go_upto_region 1 with (fail)
 obtain⟨g,g2,g3,wa,hg3,hg2,hg,hwa,hb1,hb2,hb3,hea,l12,l23,l3,n12,n21,n13,n31,n23,n32⟩:=C5 w 24 24 24 (.bool s) (up A n cap) (.bool t) (up B m cap') (wk) (up none 0 0);rw [hg3,hg2,hg,hwa];have hgw:w.heap.size≤g:=Nat.le_of_eq hg;clear hwa hg hg2 hg3;obtain⟨f1,f2,f3,f4⟩:=hb1.two;obtain⟨h1,h2,h3,h4⟩:=hb2.two;obtain⟨k1,k2,k3,k4⟩:=hb3.two;by_cases hst:s=t
 ·have bs:(s==t)=true:=by rw [hst];cases t <;> rfl
  go_upto_region 2 with (fail)
  go_region_held3 (fun w'=>w'.cell? ⟨g,0,none⟩=some (.bool s)∧w'.cell? ⟨g,1,none⟩=some (up A n cap)∧w'.cell? ⟨g2,0,none⟩=some (.bool t)∧w'.cell? ⟨g2,1,none⟩=some (up B m cap')) (go_keep)
   (first
   | (go_at_call 109;refine (B6 (hr.ext yn) i9 (hq.ext yn) i9).mono ?_;rintro e w1 ⟨A1,n1,c1,rfl,hn1,hr1,ho1,hx1⟩;have he1:Ext wa w1:=Ext.trans yn hx1;have hb1:=hb1.ext he1;have hb2:=hb2.ext he1;have hb3:=hb3.ext he1;obtain⟨f1,f2,f3,f4⟩:=hb1.two;obtain⟨h1,h2,h3,h4⟩:=hb2.two;obtain⟨k1,k2,k3,k4⟩:=hb3.two)
   | (go_at_call 93;refine (mQ hn1.out).mono ?_;rintro e w2 ⟨s',rfl,hs',hx2⟩;have hd1:=hb1.ext hx2;have hd2:=hb2.ext hx2;have hd3:=hb3.ext hx2;obtain⟨f1,f2,f3,f4⟩:=hd1.two;obtain⟨h1,h2,h3,h4⟩:=hd2.two;obtain⟨k1,k2,k3,k4⟩:=hd3.two))
  go_wp2_with fail
  refine kE (nV J J (hd3.two_set _ _)) J ?_;exact oB hd3 ((lE hs'.out hn1.out ho1 (by rw [DS,hst])).ext hx2) (hea.trans (he1.trans hx2)) (hg:=(by first | omega | (simp;omega)))
 have bs:(s==t)=false:=by cases s <;> cases t <;> simp_all
 have ht:Hid (t= !s):=by show _=_;cases s <;> cases t <;> simp_all
 clear hst
 go_wp2_with fail
 refine (vF (hr.ext hea) (hq.ext hea)).mono ?_;rintro e w1 ⟨c,hc,hcl,hch,rfl,hx1⟩;have hb1:=hb1.ext hx1;have hb2:=hb2.ext hx1;have hb3:=hb3.ext hx1;have he1:=hea.trans hx1;have hsz:=hx1.size;clear f1 f2 f3 f4 h1 h2 h3 h4 k1 k2 k3 k4;obtain⟨f1,f2,f3,f4⟩:=hb1.two;obtain⟨h1,h2,h3,h4⟩:=hb2.two;by_cases hlt:c<0
 ·have hle:nv xs≤nv ys:=by rw [hc.out] at hlt;exact Nat.le_of_lt (nH.1 hlt)
  have HLE:=Lib.hid hle;clear hle
  go_upto_region 5 with (fail)
  obtain⟨wb,hwb⟩:∃wb,(((w1.setCell ⟨g,0,none⟩ (.bool t)).setCell ⟨g,1,none⟩ (.slice B m cap')).setCell ⟨g2,0,none⟩ (.bool s)).setCell ⟨g2,1,none⟩ (.slice A n cap)=wb:=⟨_,rfl⟩;rw [hwb];have hd1:Bk wb g 24 (a5 t B m cap'):=by rw [←hwb];exact (hb1.two_set _ _).two_far n12 _ _
  have hd2:Bk wb g2 24 (a5 s A n cap):=by rw [←hwb];exact (hb2.two_far n21 _ _).two_set _ _
  have hd3:Bk wb g3 24 (a5 false none 0 0):=by rw [←hwb];exact (hb3.two_far n31 _ _).two_far n32 _ _
  have heb:Ext w wb:=by
   rw [←hwb]
   exact (Upd.two _ _).ext ((Upd.two _ _).ext he1 hgw) i9
  have hszb:wb.heap.size=w1.heap.size:=by rw [←hwb];simp [wH]
  clear hwb f1 f2 f3 f4 h1 h2 h3 h4;obtain⟨f1,f2,f3,f4⟩:=hd1.two;obtain⟨h1,h2,h3,h4⟩:=hd2.two
  go_wp2_with fail
  refine (ES (hq.ext heb) (hr.ext heb) HLE.out).mono ?_;rintro e w2 ⟨A2,n2,c2,rfl,hn2,hr2,ho2,hx2⟩;obtain⟨f1,f2,f3,f4⟩:=(hd1.ext hx2).two;have hd3:=hd3.ext hx2
  go_wp2_with fail
  refine (mQ hn2.out).mono ?_;rintro e w3 ⟨s',rfl,hs',hx3⟩;have hd3:=hd3.ext hx3;obtain⟨k1,k2,k3,k4⟩:=hd3.two
  go_wp2_with fail
  refine kE (nV J J (hd3.two_set _ _)) J ?_;exact oB hd3 ((lE hs'.out hn2.out ho2 (by rw [uX HLE.out,ht.out,Bool.not_not,Int.add_comm])).ext hx3) (heb.trans (hx2.trans hx3))
 have hle:nv ys≤nv xs:=by rw [hc.out] at hlt;exact rA (fun h=>hlt (nH.2 h))
 have HLE:=Lib.hid hle;clear hle
 go_wp2_with fail
 refine (ES (hr.ext he1) (hq.ext he1) HLE.out).mono ?_;rintro e w2 ⟨A2,n2,c2,rfl,hn2,hr2,ho2,hx2⟩;obtain⟨f1,f2,f3,f4⟩:=(hb1.ext hx2).two;have hd3:=hb3.ext hx2
 go_wp2_with fail
 refine (mQ hn2.out).mono ?_;rintro e w3 ⟨s',rfl,hs',hx3⟩;have hd3:=hd3.ext hx3;obtain⟨k1,k2,k3,k4⟩:=hd3.two
 go_wp2_with fail
 refine kE (nV J J (hd3.two_set _ _)) J ?_;exact oB hd3 ((lE hs'.out hn2.out ho2 (by rw [uX HLE.out,ht.out])).ext hx3) (he1.trans (hx2.trans hx3))
theorem RH {t:Bool}(hx:Zi w s A n cap x)(hl:n≤274877906944)(hy:Zi w t B m cap' y)(hl':m≤274877906944):aQ aM 84 #[O s A n cap,O t B m cap'] w (nK w (x-y)):=by
 go_enter Tryz.func84,Tryz.ntmps84
 go_upto_region 1 with (fail)
 obtain⟨g,g2,g3,wa,hg3,hg2,hg,hwa,hb1,hb2,hb3,hea,l12,l23,l3,n12,n21,n13,n31,n23,n32⟩:=C5 w 24 24 24 (.bool s) (up A n cap) (.bool t) (up B m cap') (wk) (up none 0 0);rw [hg3,hg2,hg,hwa];have hgw:w.heap.size≤g:=Nat.le_of_eq hg;clear hwa hg hg2 hg3;obtain⟨f1,f2,f3,f4⟩:=hb1.two;obtain⟨h1,h2,h3,h4⟩:=hb2.two;obtain⟨k1,k2,k3,k4⟩:=hb3.two
 go_wp2_with fail
 refine (CY (hx.ext hea) hl (hy.not.ext hea) hl').mono ?_;rintro e w1 ⟨s1,A1,n1,c1,rfl,z1,hx1⟩;have hd3:=hb3.ext hx1;clear f1 f2 f3 f4 h1 h2 h3 h4 k1 k2 k3 k4;obtain⟨k1,k2,k3,k4⟩:=hd3.two
 go_wp2_with fail
 refine kE (nV J J (hd3.two_set _ _)) J ?_;exact oB hd3 (z1.cast Int.sub_eq_add_neg.symm) (hea.trans hx1)
theorem RO {t u:Bool}{cap'':Nat}(hx:Zi w s A n cap x)(hl:n≤68719476736)(hy:Zi w t B m cap' y)(hl':m≤68719476736)(hz:Zi w u C k cap'' z)(hl'':k≤68719476736):aQ aM 73 #[O s A n cap,O t B m cap',O u C k cap''] w (nK w (x*y+z)):=by
 have lx:=a8 hx.ln hl;have ly:=a8 hy.ln hl'
 go_enter Tryz.func73,Tryz.ntmps73
 go_upto_region 1 with (fail)
 obtain⟨g,g2,g3,g4,wa,hg4,hg3,hg2,hg,hwa,hb1,hb2,hb3,hb4,hea,l12,l23,l34,l4,n12,n21,n13,n31,n23,n32,n14,n41,n24,n42,n34,n43⟩:=G8 w 24 24 24 24 (.bool s) (up A n cap) (.bool t) (up B m cap') (.bool u) (up C k cap'') (wk) (up none 0 0);rw [hg4,hg3,hg2,hg,hwa];have hgw:w.heap.size≤g:=Nat.le_of_eq hg;clear hwa hg hg2 hg3 hg4;obtain⟨f1,f2,f3,f4⟩:=hb1.two;obtain⟨h1,h2,h3,h4⟩:=hb2.two;obtain⟨i1,i2,i3,i4⟩:=hb3.two;obtain⟨k1,k2,k3,k4⟩:=hb4.two
 go_region_held3 (fun w'=>w'.cell? ⟨g,0,none⟩=some (.bool s)∧w'.cell? ⟨g,1,none⟩=some (up A n cap)∧w'.cell? ⟨g2,0,none⟩=some (.bool t)∧w'.cell? ⟨g2,1,none⟩=some (up B m cap')∧w'.cell? ⟨g3,0,none⟩=some (.bool u)∧w'.cell? ⟨g3,1,none⟩=some (up C k cap'')) (go_keep)
  (first
  | (go_at_call 74;refine (HJ (hx.ext yn) hl (hy.ext yn) hl').mono ?_;rintro e w1 ⟨s1,A1,n1,c1,rfl,z1,hx1⟩;have q1:n1≤274877906944:=(a8 (z1.le (dI lx ly)) i9);have he1:Ext wa w1:=Ext.trans yn hx1;have hb1:=hb1.ext he1;have hb2:=hb2.ext he1;have hb3:=hb3.ext he1;have hb4:=hb4.ext he1;obtain⟨f1,f2,f3,f4⟩:=hb1.two;obtain⟨h1,h2,h3,h4⟩:=hb2.two;obtain⟨i1,i2,i3,i4⟩:=hb3.two;obtain⟨k1,k2,k3,k4⟩:=hb4.two)
  | (go_at_call 77;refine (CY z1.zi q1 (hz.ext (hea.trans he1)) i9).mono ?_;rintro e w2 ⟨s2,A2,n2,c2,rfl,z2,hx2⟩;have hb1:=hb1.ext hx2;have hb2:=hb2.ext hx2;have hb3:=hb3.ext hx2;have hb4:=hb4.ext hx2;obtain⟨f1,f2,f3,f4⟩:=hb1.two;obtain⟨h1,h2,h3,h4⟩:=hb2.two;obtain⟨i1,i2,i3,i4⟩:=hb3.two;obtain⟨k1,k2,k3,k4⟩:=hb4.two))
 go_wp2_with fail
 have hsz:=he1.size;refine kE (nV J J (hb4.two_set _ _)) J ?_;exact oB hb4 z2 (hea.trans (he1.trans hx2))
theorem RP {t:Bool}(hx:Zi w s A n cap x)(hl:n≤68719476736)(hy:Zi w t B m cap' y)(hl':m≤68719476736):aQ aM 76 #[O s A n cap,O t B m cap'] w (GO (bM x y) w):=by
 go_enter Tryz.func76,Tryz.ntmps76
 go_upto_region 1 with (fail)
 obtain⟨g,g2,wa,hg2,hg,hwa,hb1,hb2,hea,l12,l2,n12,n21⟩:=G9 w 24 24 (.bool s) (up A n cap) (.bool t) (up B m cap');rw [hg2,hg,hwa];have hgw:w.heap.size≤g:=Nat.le_of_eq hg;clear hwa hg hg2;obtain⟨f1,f2,f3,f4⟩:=hb1.two;obtain⟨h1,h2,h3,h4⟩:=hb2.two
 go_region_held3 (fun w'=>w'.cell? ⟨g,0,none⟩=some (.bool s)∧w'.cell? ⟨g,1,none⟩=some (up A n cap)∧w'.cell? ⟨g2,0,none⟩=some (.bool t)∧w'.cell? ⟨g2,1,none⟩=some (up B m cap')) (go_keep)
  (first
  | (go_at_call 50;(with_reducible refine (CX (hx.ext (hea.trans yn)) hl).mono ?_);rintro e w2 ⟨c,hc,hcl,hch,rfl,hx2⟩;have he2:Ext wa w2:=Ext.trans yn hx2;obtain⟨f1,f2,f3,f4⟩:=(hb1.ext he2).two;obtain⟨h1,h2,h3,h4⟩:=(hb2.ext he2).two)
  | (go_at_call 50;(with_reducible refine (CX (hy.ext (hea.trans yn)) hl').mono ?_);rintro e w2 ⟨d,hd,hdl,hdh,rfl,hx2⟩;have he2:Ext wa w2:=Ext.trans yn hx2;obtain⟨f1,f2,f3,f4⟩:=(hb1.ext he2).two;obtain⟨h1,h2,h3,h4⟩:=(hb2.ext he2).two))
 all_goals
  have e2:=hea.trans he2
  clear hx2
  have p1:c<0↔x<0:=by rw [hc.out];exact tA
  have p2:c=0↔x=0:=by rw [hc.out];exact mA
  have p3:d<0↔y<0:=by rw [hd.out];exact tA
  have p4:d=0↔y=0:=by rw [hd.out];exact mA
  have hlt:c<d→x<y:=by omega
  have hgt:d<c→y<x:=by omega
  have H1:=Lib.hid p1
  have H2:=Lib.hid p2
  have H3:=Lib.hid p3
  have H4:=Lib.hid p4
  clear p1 p2 p3 p4
  rcases Int.lt_trichotomy c d with h | h | h
  ·have bn:(c != d)=true:=by simp;omega
   have HL:=Lib.hid (hlt h)
   clear hlt hgt
   go_wp2_with fail
   go_ret
   exact⟨-1,(show _=_ by rw [bM,if_pos HL.out]),by omega,by omega,rfl,e2⟩
  ·subst h
   have bn:(c != c)=false:=by simp
   clear hlt hgt
   obtain⟨xs,hr,hxv⟩:=hx
   obtain⟨ys,hq,hyv⟩:=hy
   have HX:=Lib.hid hxv
   have HY:=Lib.hid hyv
   clear hxv hyv
   go_wp2_with fail
   refine (vF (hr.ext e2) (hq.ext e2)).mono ?_
   rintro e w3 ⟨k,hk,hkl,hkh,rfl,hx3⟩
   have fin:c*k=bM x y:=by
    have ax:x.natAbs=nv xs:=by rw [←HX.out,mY]
    have ay:y.natAbs=nv ys:=by rw [←HY.out,mY]
    have k1:k<0↔nv xs<nv ys:=by rw [hk.out];exact nH
    have k2:0<k↔nv ys<nv xs:=by rw [hk.out];exact G3
    have p1:=H1.out
    have p2:=H2.out
    have p3:=H3.out
    have p4:=H4.out
    have hc3:c= -1∨c=0∨c=1:=by omega
    have hk3:k= -1∨k=0∨k=1:=by omega
    rcases hc3 with rfl | rfl | rfl
    ·rcases hk3 with rfl | rfl | rfl <;> (unfold bM;split <;> (try split) <;> omega)
    ·unfold bM;split <;> (try split) <;> omega
    ·rcases hk3 with rfl | rfl | rfl <;> (unfold bM;split <;> (try split) <;> omega)
   have FIN:=Lib.hid fin
   clear fin
   have hc3:c= -1∨c=0∨c=1:=by omega
   rcases hc3 with rfl | rfl | rfl
   ·go_wp2_with fail
    go_ret
    exact⟨-k,(show _=_ by rw [←FIN.out];omega),by omega,by omega,rfl,e2.trans hx3⟩
   ·go_wp2_with fail
    go_ret
    exact⟨0,(show _=_ by rw [←FIN.out];omega),by omega,by omega,rfl,e2.trans hx3⟩
   ·go_wp2_with fail
    go_ret
    exact⟨k,(show _=_ by rw [←FIN.out];omega),by omega,by omega,rfl,e2.trans hx3⟩
  ·have bn:(c != d)=true:=by simp;omega
   have hnl:¬c<d:=by omega
   have HG:=Lib.hid (hgt h)
   clear hlt hgt
   go_wp2_with fail
   go_ret
   exact⟨1,(show _=_ by have:=HG.out;rw [bM,if_neg i9,if_neg i9]),by omega,by omega,rfl,e2⟩
theorem a3z {t:Bool}(hx:Zi w s A n cap x)(hl:n≤68719476736)(hy:Zi w t B m cap' y)(hl':m≤68719476736):aQ aM 51 #[O s A n cap,O t B m cap'] w (nK w (Int.gcd x y:Int)):=by
 obtain⟨xs,hr,rfl⟩:=hx;obtain⟨ys,hq,rfl⟩:=hy
 go_enter Tryz.func51,Tryz.ntmps51
 go_upto_region 1 with (fail)
 obtain⟨g,g2,g3,wa,hg3,hg2,hg,hwa,hb1,hb2,hb3,hea,l12,l23,l3,n12,n21,n13,n31,n23,n32⟩:=C5 w 24 24 24 (.bool s) (up A n cap) (.bool t) (up B m cap') (wk) (up none 0 0);rw [hg3,hg2,hg,hwa];have hgw:w.heap.size≤g:=Nat.le_of_eq hg;clear hwa hg hg2 hg3;obtain⟨f1,f2,f3,f4⟩:=hb1.two;obtain⟨h1,h2,h3,h4⟩:=hb2.two;obtain⟨k1,k2,k3,k4⟩:=hb3.two
 go_wp2_with fail
 refine (a2m (hr.ext hea) i9 (hq.ext hea) i9).mono ?_;rintro e w1 ⟨A1,n1,c1,rfl,hn1,hr1,ho1,hx1⟩;have hd3:=hb3.ext hx1;clear f1 f2 f3 f4 h1 h2 h3 h4 k1 k2 k3 k4;obtain⟨k1,k2,k3,k4⟩:=hd3.two
 go_wp2_with fail
 refine kE (nV J J (hd3.two_set _ _)) J ?_;refine oB hd3 (lE (s:=false) (m:=Nat.gcd (nv xs) (nv ys)) ?_ hn1.out ho1 ?_) (hea.trans hx1)
 ·rw [nT];simp
 rw [nT,Int.gcd,mY,mY]
theorem RL {v:Nat}(hv:v≤9223372036854775807):aQ aM 78 #[no (v:Int)] w (nK w ((v:Int))):=by
 have hn:¬(v:Int)<0:=by omega
 go_enter Tryz.func78,Tryz.ntmps78
 go_upto_region 3 with (fail)
 obtain⟨g,hg⟩:∃g,w.heap.size=g:=⟨_,rfl⟩;obtain⟨wa,hwa⟩:∃wa,w.alloc (.cells #[.bool false,.slice none 0 0] 24)=wa:=⟨_,rfl⟩;rw [hg,hwa];have hb:Bk wa g 24 (a5 false none 0 0):=by rw [←hwa,←hg];exact Bk.new w 24 (a5 false none 0 0)
 have hea:Ext w wa:=by rw [←hwa];exact (Ext.refl w).alloc _
 have hga:w.heap.size≤g:=Nat.le_of_eq hg;have hgl:g<wa.heap.size:=hb.lt;clear hwa hg;obtain⟨k1,k2,k3,k4⟩:=hb.two;have h1:Rd (wa.alloc (.cells #[t9 (v:Int)] 43)) (some ⟨wa.heap.size,0,none⟩) 1 1 [v]:=Rd.one wa i9
 go_wp2_with fail
 refine (kY (h1.ext yn)).mono ?_;rintro e w1 ⟨A1,n1,c1,rfl,hn1,hr1,ho1,hx1⟩;rw [xM] at hn1 ho1;have hx1':Ext wa w1:=Ext.trans yn hx1;have hd:=hb.ext hx1';have hsz:=hx1'.size
 go_wp2_with fail
 refine (mQ hn1.out).mono ?_;rintro e w2 ⟨s',rfl,hs',hx2⟩;have hd:=hd.ext hx2;clear k1 k2 k3 k4;obtain⟨k1,k2,k3,k4⟩:=hd.two
 go_wp2_with fail
 refine kE (nV J J (hd.two_set _ _)) J ?_;exact oB hd ((lE hs'.out hn1.out ho1 (nT _)).ext hx2) (hea.trans (hx1'.trans hx2)) (hg:=(by simp;omega))
def RetZZEA (w:a6)(q r:Int)(er:Int)(e:eF)(w':a6):Prop:=
 ∃s A n cap s' B m cap',e= .returned (.tuple #[O s A n cap,O s' B m cap',no er])∧Zr w' w.heap.size s A n cap q∧Zr w' w.heap.size s' B m cap' r∧Ext w w'∧∀p q,A=some p→B=some q→p.block≠q.block
theorem RetZZEA.old {q:Int}{e:eF}(h:RetZZEA w q r er e w'):GP w q r er e w':=by
 obtain⟨s,A,n,c,s',B,m,c',h1,h2,o,f,_⟩:=h;exact⟨s,A,n,c,s',B,m,c',h1,h2,o,f⟩
theorem RF {t:Bool}(hx:Zi w s A n cap x)(_hl:n≤68719476736)(hy:Zi w t B m cap' y)(hl':m≤68719476736)(h0:y=0):aQ aM 83 #[O s A n cap,O t B m cap'] w (RetZZEA w 0 0 4):=by
 obtain⟨xs,hr,rfl⟩:=hx;obtain⟨ys,hq,hyv⟩:=hy;have hz:nv ys=0:=DR.1 (by rw [hyv,h0]);have HZ:=Lib.hid hz;clear hz h0 hyv
 go_enter Tryz.func83,Tryz.ntmps83
 go_upto_region 1 with (fail)
 obtain⟨g,g2,g3,g4,wa,hg4,hg3,hg2,hg,hwa,hb1,hb2,hb3,hb4,hea,l12,l23,l34,l4,n12,n21,n13,n31,n23,n32,n14,n41,n24,n42,n34,n43⟩:=G8 w 24 24 24 24 (.bool s) (up A n cap) (.bool t) (up B m cap') (wk) (up none 0 0) (wk) (up none 0 0);rw [hg4,hg3,hg2,hg,hwa];have hgw:w.heap.size≤g:=Nat.le_of_eq hg;clear hwa hg hg2 hg3 hg4;obtain⟨f1,f2,f3,f4⟩:=hb1.two;obtain⟨h1,h2,h3,h4⟩:=hb2.two
 go_wp2_with fail
 refine (a2o (hq.ext hea) i9 HZ.out).mono ?_;rintro e w1 ⟨rfl,hx1⟩;clear f1 f2 f3 f4 h1 h2 h3 h4;have hb3:=hb3.ext hx1;have hb4:=hb4.ext hx1;have hsz:=hx1.size;have e1:=hea.trans hx1;obtain⟨i1,i2,i3,i4⟩:=hb3.two;obtain⟨k1,k2,k3,k4⟩:=hb4.two
 go_wp2_with fail
 refine kE (KD J J J J ((hb3.two_set _ _).two_far n34 _ _) ((hb4.two_far n43 _ _).two_set _ _)) J ?_;exact⟨_,_,_,_,_,_,_,_,rfl,Zr.zero,Zr.zero,(Upd.two _ _).ext ((Upd.two _ _).ext e1 i9) i9,fun _ _ h=>by cases h⟩
theorem HH {t:Bool}(hx : Zi w s A n cap x)(hl : n ≤ 68719476736)(hy : Zi w t B m cap' y)(hl' : m ≤ 68719476736)(h0 : y ≠ 0):aQ aM 83 #[.agg #[.bool s, up A n cap], .agg #[.bool t, up B m cap']] w (RetZZEA w (x.tdiv y) (x.tmod y) 0) := by
 obtain ⟨xs, hr, rfl⟩ := hx;obtain ⟨ys, hq, rfl⟩ := hy;have hz : nv ys ≠ 0 := fun e => h0 (DR.2 e);have HZ := Lib.hid hz;clear hz h0
 go_enter Tryz.func83, Tryz.ntmps83
 go_upto_region 1 with (fail)
 obtain ⟨g, g2, g3, g4, wa, hg4, hg3, hg2, hg, hwa, hb1, hb2, hb3, hb4, hea, l12, l23, l34, l4, n12, n21, n13, n31, n23, n32, n14, n41, n24, n42, n34, n43⟩ := G8 w 24 24 24 24 (.bool s) (up A n cap) (.bool t) (up B m cap') (wk) (up none 0 0) (wk) (up none 0 0);rw [hg4, hg3, hg2, hg, hwa];have hgw : w.heap.size ≤ g := Nat.le_of_eq hg;clear hwa hg hg2 hg3 hg4;obtain ⟨f1, f2, f3, f4⟩ := hb1.two;obtain ⟨h1, h2, h3, h4⟩ := hb2.two
 go_wp2_with fail
 refine (PD (hr.ext hea) i9 (hq.ext hea) i9 HZ.out).mono ?_;rintro e w1 ⟨Aq, nq, cq, Ar, nr, cr, rfl, hnq, hrq, hoq, hnr, hrr, hor, hx1, hap⟩;replace hap := Lib.hid hap;clear f1 f2 f3 f4 h1 h2 h3 h4;have hb1 := hb1.ext hx1;have hb2 := hb2.ext hx1;have hb3 := hb3.ext hx1;have hb4 := hb4.ext hx1;have hsz := hx1.size;have e1 := hea.trans hx1
 go_upto_region 4 with (fail)
 obtain ⟨f1, f2, f3, f4⟩ := hb1.two;obtain ⟨h1, h2, h3, h4⟩ := hb2.two;obtain ⟨i1, i2, i3, i4⟩ := hb3.two;obtain ⟨k1, k2, k3, k4⟩ := hb4.two
 go_region_held3 (fun w' => w'.cell? ⟨g, 0, none⟩ = some (.bool s) ∧ w'.cell? ⟨g, 1, none⟩ = some (up A n cap) ∧ w'.cell? ⟨g2, 0, none⟩ = some (.bool t) ∧ w'.cell? ⟨g2, 1, none⟩ = some (up B m cap')) (go_keep)
   (first
   | (go_at_call 93; (with_reducible refine (mQ hnq.out).mono ?_); rintro e w5 ⟨s5, rfl, hs5, hx5⟩; have he5 : Ext w1 w5 := Ext.trans yn hx5; clear f1 f2 f3 f4 h1 h2 h3 h4 i1 i2 i3 i4 k1 k2 k3 k4; obtain ⟨f1, f2, f3, f4⟩ := (hb1.ext he5).two; obtain ⟨h1, h2, h3, h4⟩ := (hb2.ext he5).two; obtain ⟨i1, i2, i3, i4⟩ := (hb3.ext he5).two; obtain ⟨k1, k2, k3, k4⟩ := (hb4.ext he5).two)
   | (go_at_call 93; (with_reducible refine (mQ hnr.out).mono ?_); rintro e w6 ⟨s6, rfl, hs6, hx6⟩; have he6 : Ext w1 w6 := Ext.trans yn hx6; clear f1 f2 f3 f4 h1 h2 h3 h4 i1 i2 i3 i4 k1 k2 k3 k4; obtain ⟨f1, f2, f3, f4⟩ := (hb1.ext he6).two; obtain ⟨h1, h2, h3, h4⟩ := (hb2.ext he6).two; obtain ⟨i1, i2, i3, i4⟩ := (hb3.ext he6).two; obtain ⟨k1, k2, k3, k4⟩ := (hb4.ext he6).two))
 all_goals
   clear f1 f2 f3 f4 h1 h2 h3 h4 i1 i2 i3 i4 k1 k2 k3 k4
   first
   | (obtain ⟨wb, hwb⟩ : ∃ wb, (((w6.setCell ⟨g3, 0, none⟩ (.bool s5)).setCell ⟨g3, 1, none⟩ (.slice Aq nq cq)).setCell ⟨g4, 0, none⟩ (.bool s6)).setCell ⟨g4, 1, none⟩ (.slice Ar nr cr) = wb := ⟨_, rfl⟩
      rw [hwb]
      have hL := he6)
   | (obtain ⟨wb, hwb⟩ : ∃ wb, (((w5.setCell ⟨g3, 0, none⟩ (.bool s5)).setCell ⟨g3, 1, none⟩ (.slice Aq nq cq)).setCell ⟨g4, 0, none⟩ (.bool s6)).setCell ⟨g4, 1, none⟩ (.slice Ar nr cr) = wb := ⟨_, rfl⟩
      rw [hwb]
      have hL := he5)
   have q3 : Bk wb g3 24 [.bool s5, up Aq nq cq] := by rw [← hwb]; exact ((hb3.ext hL).two_set _ _).two_far n34 _ _
   have q4 : Bk wb g4 24 [.bool s6, up Ar nr cr] := by rw [← hwb]; exact ((hb4.ext hL).two_far n43 _ _).two_set _ _
   have r5 : Zr wb w.heap.size s5 Aq nq cq ((sg s (nv xs)).tdiv (sg t (nv ys))) := by
     rw [← hwb]
     exact (((((lE hs5.out hnq.out hoq (DP _ _ _ _)).ext hL).upd i9 (Upd.two _ _)).upd i9 (Upd.two _ _)).mono i9)
   have r6 : Zr wb w.heap.size s6 Ar nr cr ((sg s (nv xs)).tmod (sg t (nv ys))) := by
     rw [← hwb]
     exact (((((lE hs6.out hnr.out hor (JK _ _ _ _)).ext hL).upd i9 (Upd.two _ _)).upd i9 (Upd.two _ _)).mono i9)
   have eb : Ext w wb := by rw [← hwb]; exact (Upd.two _ _).ext ((Upd.two _ _).ext (e1.trans hL) i9) i9
   clear hwb
   go_wp2_with fail
   refine kE (KD J J J J q3 q4) J ?_
   exact ⟨s5, Aq, nq, cq, s6, Ar, nr, cr, rfl, r5, r6, eb, hap.out⟩
theorem RG {t:Bool}(hx:Zi w s A n cap x)(hl:n≤68719476736)(hy:Zi w t B m cap' y)(hl':m≤68719476736)(h0:y≠0):aQ aM 83 #[O s A n cap,O t B m cap'] w (GP w (x.tdiv y) (x.tmod y) 0):=(HH hx hl hy hl' h0).mono fun _ _ h=>h.old
structure Flo (q r x y:Int):Prop where
 eq:q*y+r=x
 pos:0<y→0≤r∧r<y
 neg:y<0→y<r∧r≤0
theorem nS (h:y≠0):(x.tmod y).natAbs<y.natAbs:=by
 rw [Int.natAbs_tmod];exact g7 _ i9
theorem Zi.sgn (h:Zi w s A n cap z)(h0:z≠0):s=decide (z<0):=by
 obtain⟨xs,_,rfl⟩:=h;have hm:nv xs≠0:=fun e=>h0 (DR.2 e);rw [xB,decide_eq_true (show 0<nv xs by omega),Bool.and_true]
end
section
namespace Pop
def mk (m:Nat):Nat→Nat
 | 0=>0
 | k+1=>m+256*mk m k
theorem yJ (a A m M:Nat)(ha:a<256)(hm:m<256:=by omega):(a+256*A)&&& (m+256*M)=(a&&& m)+256*(A&&& M):=by
 have h1:((a+256*A)&&& (m+256*M))%2^8=a&&& m:=by
  rw [Nat.and_mod_two_pow]
  congr 1 <;> omega
 have h2:((a+256*A)&&& (m+256*M))/2^8=A&&& M:=by
  rw [Nat.and_div_two_pow]
  congr 1 <;> omega
 have f:=kF ((a+256*A)&&& (m+256*M)) (2^8);rw [h1,h2] at f;exact f.symm
def f1 (k x:Nat):Nat:=(x/2&&& mk 85 k)+(x&&& mk 85 k)
def f2 (k x:Nat):Nat:=(x/4&&& mk 51 k)+(x&&& mk 51 k)
def f3 (k x:Nat):Nat:=(x/16+x)&&& mk 15 k
def d1 (b:Nat):Nat:=(b/2&&& 85)+(b&&& 85)
def d2 (b:Nat):Nat:=(b/4&&& 51)+(b&&& 51)
def d3 (b:Nat):Nat:=(b/16+b)&&& 15
def pc (b:Nat):Nat:=d3 (d2 (d1 b))
theorem t1:∀b:Fin 256,∀p:Fin 2,((b.val/2+128*p.val)&&& 85)=(b.val/2&&& 85):=by decide+kernel
theorem t2:∀b:Fin 256,∀p:Fin 4,((b.val/4+64*p.val)&&& 51)=(b.val/4&&& 51):=by decide+kernel
theorem t3:∀b:Fin 256,∀p:Fin 5,((d2 (d1 b.val)/16+d2 (d1 b.val)+16*p.val)&&& 15)=pc b.val:=by decide+kernel
theorem t4:∀b:Fin 256,d1 b.val<256∧d2 (d1 b.val)<69∧d2 (d1 b.val)%16≤4∧pc b.val≤8∧(pc b.val=0→b.val=0)∧(128≤b.val→pc b.val≤1→b.val=128):=by decide+kernel
theorem a11 {B:Nat}(hb:b<256):f1 (k+1) (b+256*B)=d1 b+256*f1 k B:=by
 unfold f1 d1;rw [show mk 85 (k+1)=85+256*mk 85 k from rfl];have e:(b+256*B)/2=(b/2+128*(B%2))+256*(B/2):=by omega
 rw [e,yJ _ _ _ _ i9,yJ _ _ _ _ hb,t1 ⟨b,hb⟩ ⟨B%2,by omega⟩];show (b/2&&& 85)+_+_=_;omega
theorem a10 {B:Nat}(hb:b<256):f2 (k+1) (b+256*B)=d2 b+256*f2 k B:=by
 unfold f2 d2;rw [show mk 51 (k+1)=51+256*mk 51 k from rfl];have e:(b+256*B)/4=(b/4+64*(B%4))+256*(B/4):=by omega
 rw [e,yJ _ _ _ _ i9,yJ _ _ _ _ hb,t2 ⟨b,hb⟩ ⟨B%4,by omega⟩];show (b/4&&& 51)+_+_=_;omega
theorem rI {B:Nat}(hb:b<256)(hB:f2 k (f1 k B)%16≤4):f3 (k+1) (f2 (k+1) (f1 (k+1) (b+256*B)))=pc b+256*f3 k (f2 k (f1 k B))∧f2 (k+1) (f1 (k+1) (b+256*B))%16≤4:=by
 obtain⟨h1,h2,_,_⟩:=t4 ⟨b,hb⟩;rw [a11 hb,a10 h1];refine⟨?_,by omega⟩;generalize f2 k (f1 k B)=C at*;unfold f3;rw [show mk 15 (k+1)=15+256*mk 15 k from rfl];have e:(d2 (d1 b)+256*C)/16+(d2 (d1 b)+256*C)=(d2 (d1 b)/16+d2 (d1 b)+16*(C%16))+256*(C/16+C):=by omega
 have h2':d2 (d1 b)<69:=h2;rw [e,yJ _ _ _ _ i9,t3 ⟨b,hb⟩ ⟨C%16,by omega⟩]
theorem a14 {b0 b1 b2 b3 b4 b5 b6 b7:Nat}(h0:b0<256)(h1:b1<256)(h2:b2<256)(h3:b3<256)(h4:b4<256)(h5:b5<256)(h6:b6<256)(h7:b7<256):f3 8 (f2 8 (f1 8 (b0+256*(b1+256*(b2+256*(b3+256*(b4+256*(b5+256*(b6+256*(b7+256*0))))))))))
   =pc b0+256*(pc b1+256*(pc b2+256*(pc b3+256*(pc b4+256*(pc b5+256*(pc b6+256*pc b7)))))):=by
 have h:=rI (k:=0) (B:=0) h7 yd;have f:=rI h6 h.2;have s5:=rI h5 f.2;have s4:=rI h4 s5.2;have s3:=rI h3 s4.2;have s2:=rI h2 s3.2;have s1:=rI h1 s2.2;have s0:=rI h0 s1.2;rw [s0.1,s1.1,s2.1,s3.1,s4.1,s5.1,f.1,h.1];simp [f3,mk]
theorem a1J {p0 p1 p2 p3 p4 p5 p6 p7:Nat}(h0:p0≤8)(h1:p1≤8)(h2:p2≤8)(h3:p3≤8)(h4:p4≤8)(h5:p5≤8)(h6:p6≤8)(h7:p7≤8)(e3:x3=p0+256*(p1+256*(p2+256*(p3+256*(p4+256*(p5+256*(p6+256*p7)))))))(e4:x4=x3+x3/256)(e5:x5=x4+x4/65536)(e6:x6=x5+x5/4294967296):x6%128=p0+p1+p2+p3+p4+p5+p6+p7∧x6<18446744073709551616:=by
 have h:x4=(p0+p1)+256*((p1+p2)+256*((p2+p3)+256*((p3+p4)+256*((p4+p5)+256*((p5+p6)+256*((p6+p7)+256*p7)))))):=by omega
 clear e3 e4;have f:x5=(p0+p1+p2+p3)+256*((p1+p2+p3+p4)+256*((p2+p3+p4+p5)+256*((p3+p4+p5+p6)+256*((p4+p5+p6+p7)+256*((p5+p6+p7)+256*((p6+p7)+256*p7)))))):=by omega
 clear h e5;have gq:x5/4294967296=(p4+p5+p6+p7)+256*((p5+p6+p7)+256*((p6+p7)+256*p7)):=by omega
 rw [gq] at e6;have o:x6=(p0+p1+p2+p3+p4+p5+p6+p7)+256*(((p1+p2+p3+p4)+256*((p2+p3+p4+p5)+256*((p3+p4+p5+p6)+256*((p4+p5+p6+p7)+256*((p5+p6+p7)+256*((p6+p7)+256*p7))))))+((p5+p6+p7)+256*((p6+p7)+256*p7))):=by omega
 clear gq e6 f;omega
theorem one {x x1 x2:Nat}(hx:x<18446744073709551616)(hh:9223372036854775808≤x)(e1:x1=f1 8 x)(e2:x2=f2 8 x1)(e3:x3=f3 8 x2)(e4:x4=x3+x3/256)(e5:x5=x4+x4/65536)(e6:x6=x5+x5/4294967296):x6%128=1↔x=9223372036854775808:=by
 obtain⟨I,q0,L,bg⟩:∃b q,b<256∧x=b+256*q:=⟨x%256,x/256,by omega,by omega⟩;obtain⟨Z,q1,G,ar⟩:∃b q,b<256∧q0=b+256*q:=⟨q0%256,q0/256,by omega,by omega⟩;obtain⟨U,q2,F,aw⟩:∃b q,b<256∧q1=b+256*q:=⟨q1%256,q1/256,by omega,by omega⟩;obtain⟨M,q3,Y,bf⟩:∃b q,b<256∧q2=b+256*q:=⟨q2%256,q2/256,by omega,by omega⟩;obtain⟨W,q4,V,au⟩:∃b q,b<256∧q3=b+256*q:=⟨q3%256,q3/256,by omega,by omega⟩;obtain⟨b5,q5,E,av⟩:∃b q,b<256∧q4=b+256*q:=⟨q4%256,q4/256,by omega,by omega⟩;obtain⟨o,f,aa,bd⟩:∃b q,b<256∧q5=b+256*q:=⟨q5%256,q5/256,by omega,by omega⟩;have H:f<256:=by omega
 have hb7':128≤f:=by omega
 have e:=a14 L G F Y V E aa H;have ex:x=I+256*(Z+256*(U+256*(M+256*(W+256*(b5+256*(o+256*(f+256*0))))))):=by omega
 rw [←ex,←e1,←e2,←e3] at e;have p0:=(t4 ⟨I,L⟩).2.2.2;have p1:=(t4 ⟨Z,G⟩).2.2.2;have p2:=(t4 ⟨U,F⟩).2.2.2;have p3:=(t4 ⟨M,Y⟩).2.2.2;have p4:=(t4 ⟨W,V⟩).2.2.2;have p5:=(t4 ⟨b5,E⟩).2.2.2;have p6:=(t4 ⟨o,aa⟩).2.2.2;have X:=(t4 ⟨f,H⟩).2.2.2;have hf:=(a1J p0.1 p1.1 p2.1 p3.1 p4.1 p5.1 p6.1 X.1 e e4 e5 e6).1;simp only at p0 p1 p2 p3 p4 p5 p6 X;rw [hf];show (pc I+pc Z+pc U+pc M+pc W+pc b5+pc o+pc f=1)↔_;constructor
 ·intro h;have h7:pc f≠0:=fun hz=>by have:=X.2.1 hz;omega
  have hs:pc I+pc Z+pc U+pc M+pc W+pc b5+pc o=0∧pc f=1:=by clear p0 p1 p2 p3 p4 p5 p6 X e e1 e2 e3 e4 e5 e6 ex bg ar aw bf au av bd hf;omega
  obtain⟨hs,_⟩:=hs;have z0:=p0.2.1 i9;have z1:=p1.2.1 i9;have z2:=p2.2.1 i9;have z3:=p3.2.1 i9;have z4:=p4.2.1 i9;have z5:=p5.2.1 i9;have z6:=p6.2.1 i9;have z7:=X.2.2 hb7' i9;omega
 intro h;obtain rfl:f=128:=by omega
 obtain rfl:I=0:=by omega
 obtain rfl:Z=0:=by omega
 obtain rfl:U=0:=by omega
 obtain rfl:M=0:=by omega
 obtain rfl:W=0:=by omega
 obtain rfl:b5=0:=by omega
 obtain rfl:o=0:=by omega
 decide
end Pop
end
section
open Go.RowKit
theorem RI {v:Nat}(hv1:1≤v)(hv:v≤9223372036854775808):aQ aM 78 #[no (-(v:Int))] w (nK w (-(v:Int))):=by
 have hn: -(v:Int)<0:=by omega
 have w1e:IntKind.u64.wrap (-(v:Int))=18446744073709551616-(v:Int):=by
  simp only [yY,wT,wS]
  simp
  omega
 have w2e:IntKind.u64.wrap (-(18446744073709551616-(v:Int)))=(v:Int):=by
  simp only [yY,wT,wS]
  simp
  omega
 have W1:=Lib.hid w1e;have W2:=Lib.hid w2e;clear w1e w2e
 go_enter Tryz.func78,Tryz.ntmps78
 go_upto_region 2 with (fail)
 obtain⟨g,hg⟩:∃g,w.heap.size=g:=⟨_,rfl⟩;obtain⟨wa,hwa⟩:∃wa,w.alloc (.cells #[.bool false,.slice none 0 0] 24)=wa:=⟨_,rfl⟩;rw [hg,hwa];have hb:Bk wa g 24 (a5 false none 0 0):=by rw [←hwa,←hg];exact Bk.new w 24 (a5 false none 0 0)
 have hea:Ext w wa:=by rw [←hwa];exact (Ext.refl w).alloc _
 have hga:w.heap.size≤g:=Nat.le_of_eq hg;have hgl:g<wa.heap.size:=hb.lt;clear hwa hg;obtain⟨k1,k2,k3,k4⟩:=hb.two;have h1:Rd (wa.alloc (.cells #[t9 (v:Int)] 43)) (some ⟨wa.heap.size,0,none⟩) 1 1 [v]:=Rd.one wa i9;have w1e:=W1.out;have w2e:=W2.out
 go_wp2_with fail
 clear w1e w2e;refine (kY (h1.ext yn)).mono ?_;rintro e w1 ⟨A1,n1,c1,rfl,hn1,hr1,ho1,hx1⟩;rw [xM] at hn1 ho1;have hx1':Ext wa w1:=Ext.trans yn hx1;have hd:=hb.ext hx1';have hsz:=hx1'.size
 go_wp2_with fail
 refine (mQ hn1.out).mono ?_;rintro e w2 ⟨s',rfl,hs',hx2⟩;have hd:=hd.ext hx2;clear k1 k2 k3 k4;obtain⟨k1,k2,k3,k4⟩:=hd.two
 go_wp2_with fail
 refine kE (nV J J (hd.two_set _ _)) J ?_;exact oB hd ((lE hs'.out hn1.out ho1 (uW _)).ext hx2) (hea.trans (hx1'.trans hx2)) (hg:=(by simp;omega))
theorem RJ {v:Int}(h1: -9223372036854775808≤v)(h2:v≤9223372036854775807):aQ aM 78 #[no v] w (nK w v):=by
 by_cases h:0≤v
 ·obtain⟨m,rfl⟩:=Int.eq_ofNat_of_zero_le h;exact RL i9
 obtain⟨m,hm⟩:∃m:Nat,v= -(m:Int):=⟨v.natAbs,by omega⟩;subst hm;exact RI i9 i9
theorem ZE (t s:Nat):∀m:Nat,(m+1)*t*s^m≤t^(m+1)+m*s^(m+1):=by
 intro m
 induction m with
 | zero=>simp
 | succ m ih=>
  have h1:=gT t ih
  have hsq:2*(t*s)≤t*t+s*s:=by
   rcases Nat.le_total t s with h | h
   ·obtain⟨d,rfl⟩:=Nat.exists_eq_add_of_le h
    have e1:(t+d)*(t+d)=t*t+t*d+(t*d+d*d):=by rw [eE,dE,dE,dH d t]
    have e2:t*(t+d)=t*t+t*d:=dE _ _ _
    rw [e1,e2]
    omega
   ·obtain⟨d,rfl⟩:=Nat.exists_eq_add_of_le h
    have e1:(s+d)*(s+d)=s*s+s*d+(s*d+d*d):=by rw [eE,dE,dE,dH d s]
    have e2:(s+d)*s=s*s+s*d:=by rw [eE,dH d s]
    rw [e1,e2]
    omega
  have h2:=gT ((m+1)*s^m) hsq
  have e1:t*((m+1)*t*s^m)=(m+1)*s^m*(t*t):=by
   simp only [dH,Nat.mul_left_comm,cU]
  have e2:t*(t^(m+1)+m*s^(m+1))=t^(m+1+1)+m*(t*s^(m+1)):=by
   rw [dE,dS t (m+1),dH t (t^(m+1)),Nat.mul_left_comm]
  have e3:(m+1)*s^m*(2*(t*s))=2*((m+1)*(t*s^(m+1))):=by
   rw [dS];simp only [dH,Nat.mul_left_comm,cU]
  have e4:(m+1)*s^m*(t*t+s*s)=(m+1)*s^m*(t*t)+(m+1)*s^(m+1+1):=by
   rw [dE,dS,dS];simp only [dH,cU]
  rw [e1,e2] at h1
  rw [e3,e4] at h2
  have e5:(m+1+1)*t*s^(m+1)=m*(t*s^(m+1))+2*(t*s^(m+1)):=by
   rw [cU,←eE]
  have e6:(m+1)*(t*s^(m+1))=m*(t*s^(m+1))+t*s^(m+1):=Nat.succ_mul _ _
  rw [e5]
  rw [e6] at h2
  omega
theorem YV {s:Nat}(hq:X<(q+1)*s^m):X<(((s*m+q)/(m+1))+1)^(m+1):=by
 have h1:=ZE (((s*m+q)/(m+1))+1) s m
 have h2:s*m+q+1≤(m+1)*((s*m+q)/(m+1)+1):=by
  have:=sP (s*m+q) (show 0<m+1 by omega)
  exact this
 have f:=fC (s^m) h2
 have e:(s*m+q+1)*s^m=m*s^(m+1)+(q+1)*s^m:=by
  rw [k8,eE,dS]
  congr 1
  rw [dH s m,cU,dH s (s^m)]
 rw [e] at f;omega
theorem YU {s:Nat}(hs:0<s)(hq:q=X/s^m)(h:s≤(s*m+q)/(m+1)):s^(m+1)≤X:=by
 have h1:s*(m+1)≤s*m+q:=(Nat.le_div_iff_mul_le i9).1 h;have h2:s≤q:=by rw [sO] at h1;omega
 rw [hq] at h2;have:=(Nat.le_div_iff_mul_le (iI hs)).1 h2;rw [dS,dH];exact this
theorem NY {x s:Nat}(hs:s≤63)(P:cO)(t:aS)(w:a6):(binOp .shr t (no (x:Int)) (no (s:Int))).run P w= .ok (no (x/2^s:Nat)) w:=by
 have e:((x:Int)/2^min (s:Int).toNat IntKind.i64.bits)=((x/2^s:Nat):Int):=by
  rw [jB,show min s IntKind.i64.bits=s from iJ (by show s≤64;omega)];simp
 simp only [binOp];rw [shift_shr_any _ _ _ _ i9,e];rfl
theorem O0 {x:Nat}(hx:x≤9223372036854775807)(P:cO)(t:aS)(w:a6):(binOp .and t (no (x:Int)) (no 1)).run P w= .ok (no (x%2:Nat)) w:=by
 have e:IntKind.i64.wrap ((rC 64 (x:Int)&&& rC 64 ((1:Nat):Int)).toNat:Int)=((x%2:Nat):Int):=by
  rw [BitVec.toNat_and,rO i9,rO i9,Nat.and_one_is_mod,D1]
 rw [←e];rfl
theorem Y8 {S n k:Nat}:S^(n/2^k)=S^(n/2^(k+1))*S^(n/2^(k+1))*(if n/2^k%2=1 then S else 1):=by
 have e:n/2^(k+1)=n/2^k/2:=by rw [dS,Nat.div_div_eq_div_mul]
 rw [e,←eS];generalize n/2^k=a;split
 ·rename_i h;rw [←dS];congr 1;omega
 rename_i h;rw [eH];congr 1;omega
theorem Y7 {S:Nat}:S^(n/2^k)≤S^n+1:=by
 rcases lT S with h | h
 ·subst h
  have:(0:Nat)^(n/2^k)≤1:=by
   rcases lT (n/2^k) with e | e
   ·rw [e];simp
   ·rw [Nat.zero_pow e];omega
  generalize (0:Nat)^n=z;omega
 have:=fZ h (gN n (2^k));omega
theorem a2g (hx:Rd w A n cap xs)(hl:n≤17179869184)(hk:k≤4611686018427387904)(hL:(wd (nv xs^k)).length≤17179869184):aQ aM 150 #[up A n cap,no (k:Int)] w (jR w (nv xs^k)):=by
 have HL:=Lib.hid hL;clear hL
 have small:∀j,(wd (nv xs^(k/2^j))).length≤17179869185:=by
  intro j
  refine a8 (iP Y7) ?_
  have h1:=xW (nv xs^k) 1
  have h2:(wd 1).length=1:=by decide+kernel
  have:=HL.out
  omega
 have SM:=Lib.hid small;clear small
 go_enter Tryz.func150,Tryz.ntmps150
 go_wp2_with fail
 refine (bits_Len k i9 _).mono ?_;rintro e w' ⟨b,hb,hb64,rfl,rfl⟩;obtain⟨wa,hwa⟩:∃wa,w.alloc (.cells #[.int .u64 1] 43)=wa:=⟨_,rfl⟩;rw [hwa]
 have h1:Own wa w.heap.size 43 1 (some ⟨w.heap.size,0,none⟩) 1 1 ((wd 1).map bF):=by
  have e1:wd 1= [1]:=by decide+kernel
  rw [e1,←hwa]
  exact Own.mk_ (aU _) (Bk.new w 43 [t9 1]) (aU _) (by rw [eV];omega) J rfl
 have he:Ext w wa:=by rw [←hwa];exact (Ext.refl w).alloc _
 have hstart:Hid (nv xs^(k/2^b)=1):=by
  show _=_
  rw [Nat.div_eq_of_lt (by rw [hb.out];exact rR k)];rfl
 clear hwa
 go_wp2_with fail
 go_loopw [5,6] (fun u v wr=>∃(P:Option a7) (m c j:Nat),u= up P m c∧v= no ((j:Int)-1)∧j≤b∧Hid (m=(wd (nv xs^(k/2^j))).length)∧Own wr w.heap.size 43 1 P m c ((wd (nv xs^(k/2^j))).map bF)∧Ext w wr) (fun u v wr=>(intOf v+1).toNat)
 case atStart=>exact⟨_,1,1,b,rfl,rfl,aU _,(show _=_ by rw [hstart.out];decide+kernel),by rw [hstart.out];exact h1,he⟩
 case round=>
  obtain⟨P,m,c,j,rfl,rfl,hj,hm,ho,hr⟩:=hrel
  clear h1 he hstart
  by_cases hj0:0<j
  ·obtain⟨j,rfl⟩:∃i,j=i+1:=⟨j-1,by omega⟩
   have ek:((j+1:Nat):Int)-1=(j:Int):=by omega
   rw [ek]
   have hmb:m≤17179869185:=by rw [hm.out];exact SM.out _
   have hph:=Lib.hid (@Y8 (nv xs) k j)
   have hrd:=ho.rd (qX _)
   go_wp2_with fail
   refine (ET hrd i9).mono ?_
   rintro e w2 ⟨A2,n2,c2,rfl,hn2,hr2,ho2,hx2⟩
   rw [dZ] at hn2 hr2 ho2
   have hn2b:n2≤34359738370:=by
    have:=xV (nv xs^(k/2^(j+1))) (nv xs^(k/2^(j+1)))
    have h3:=SM.out (j+1)
    rw [hn2.out];omega
   by_cases hodd:k/2^j%2=1
   ·have HO:=Lib.hid hodd
    clear hodd
    go_wp2_with (first
     | ((with_reducible refine dU (some 20) ?_);refine oJ rfl rfl rfl rfl rfl (NY (x:=k) (s:=j) i9) ?_;intro d hd)
     | ((with_reducible refine dU (some 21) ?_);refine oJ rfl rfl rfl rfl rfl (O0 (x:=d) (by rw [hd.out];exact a8 (gN _ _) i9)) ?_;intro b2 hb2;have bt:((b2:Int)==1)=true:=(by rw [hb2.out,hd.out,HO.out];rfl)))
    refine (xS hr2 (hx.ext (hr.trans hx2))).mono ?_
    rintro e w3 ⟨A3,n3,c3,rfl,hn3,hr3,ho3,hx3⟩
    have ep:nv xs^(k/2^(j+1))*nv xs^(k/2^(j+1))*nv xs=nv xs^(k/2^j):=by
     have:=hph.out
     rw [if_pos HO.out] at this
     exact this.symm
    rw [dZ,ep] at hn3 hr3 ho3
    have HE:=(hr.trans hx2).size
    clear ep
    go_wp2_with fail
    go_roundw
    case rel=>exact⟨A3,n3,c3,j,rfl,rfl,by omega,hn3,ho3.mono HE,(hr.trans hx2).trans hx3⟩
    case measure=>simp [intOf]
   ·have HO:=Lib.hid hodd
    clear hodd
    go_wp2_with (first
     | ((with_reducible refine dU (some 20) ?_);refine oJ rfl rfl rfl rfl rfl (NY (x:=k) (s:=j) i9) ?_;intro d hd)
     | ((with_reducible refine dU (some 21) ?_);refine oJ rfl rfl rfl rfl rfl (O0 (x:=d) (by rw [hd.out];exact a8 (gN _ _) i9)) ?_;intro b2 hb2;have bt:((b2:Int)==1)=false:=(by have h1:=hb2.out;have h2:=HO.out;rw [←hd.out] at h2;simp;omega)))
    have ep:nv xs^(k/2^(j+1))*nv xs^(k/2^(j+1))=nv xs^(k/2^j):=by
     have:=hph.out
     rw [if_neg HO.out,eH] at this
     exact this.symm
    rw [ep] at hn2 ho2
    go_roundw
    case rel=>exact⟨A2,n2,c2,j,rfl,rfl,by omega,hn2,ho2.mono hr.size,hr.trans hx2⟩
    case measure=>simp [intOf]
  ·obtain rfl:j=0:=by omega
   have ek:((0:Nat):Int)-1= -1:=rfl
   rw [ek]
   have e0:k/2^0=k:=by rw [Nat.pow_zero,Nat.div_one]
   rw [e0] at hm ho
   clear e0
   go_wp2_with fail
   go_ret
   exact⟨P,m,c,rfl,hm,ho.rd (qX _),ho,hr⟩
theorem a0C {a b:Int}{x y:Nat}(ha:a=(x:Int))(hb:b=(y:Int))(hy:y≠0)(hx:x≤9223372036854775807)(P:cO)(t:aS)(w:a6):(binOp .quo t (no a) (no b)).run P w= .ok (no (x/y:Nat)) w:=by
 subst ha;subst hb;exact FB hy hx P t w
theorem SZ {x s:Nat}(hs:s≤64)(P:cO)(t:aS)(w:a6):(binOp .shl t (t9 (x:Int)) (no (s:Int))).run P w= .ok (t9 (x*2^s%18446744073709551616:Nat)) w:=by
 have e:((x:Int)*2^min (s:Int).toNat IntKind.u64.bits)=((x*2^s:Nat):Int):=by
  rw [jB,show min s IntKind.u64.bits=s from iJ hs];simp
 simp only [binOp];rw [shift_shl_any _ _ _ _ i9,e,oI];rfl
theorem NF (h:m<64*L){x:Nat}(hx:x≤2^m):(wd x).length≤L:=by
 refine kK ?_;rw [nJ,←Nat.pow_mul];exact Nat.lt_of_le_of_lt hx (Nat.pow_lt_pow_right i9 h)
def IsRoot (X k r:Nat):Prop:=r^k≤X∧X<(r+1)^k
theorem IsRoot.le {r s:Nat}(h:IsRoot X k r)(hs:X<(s+1)^k):r≤s:=by
 refine rA (fun f=>?_);have h1:=Nat.pow_le_pow_left (Nat.succ_le_of_lt f) k;have:=h.1;rw [Nat.succ_eq_add_one] at h1;omega
theorem IsRoot.uniq {r s:Nat}(h:IsRoot X k r)(g:IsRoot X k s):r=s:=Nat.le_antisymm (h.le g.2) (g.le h.2)
def QO (w:a6)(X k:Nat)(e:eF)(w':a6):Prop:=∃r,Hid (IsRoot X k r)∧jR w r e w'
theorem W8 {T:Nat}(hk:1≤k)(hT:T=(dR X+k-1)/k):X<(2^T+1)^k:=by
 have h1:=rR X
 have f:dR X≤T*k:=by
  have h2:=sP (dR X+k-1) (show 0<k by omega)
  rw [←hT,dE,eH,dH k] at h2
  omega
 refine dA h1 (a8 (fZ i9 f) ?_);rw [Nat.pow_mul];exact Nat.pow_le_pow_left i9 k
theorem a2e (hx:Rd w A n cap xs)(hl:n≤1099511627775)(h0:nv xs=0){k:Int}:aQ aM 116 #[up A n cap,no k] w (jR w 0):=by
 go_enter Tryz.func116,Tryz.ntmps116
 go_wp2_with fail
 refine (B5 hx hl).mono ?_;rintro e w1 ⟨b,hb,rfl,hx1⟩;obtain rfl:b=0:=by rw [hb.out,h0];rfl
 go_wp2_with fail
 go_ret
 exact QP J hx1
theorem V1 {s:Nat}:nv ((dF (q+1) 0).set q (2^s))=2^(64*q+s):=by
 have h:=qM (l:=dF (q+1) 0) (k:=q) (by rw [List.length_replicate];omega) (2^s)
 have e:(dF (q+1) 0).getD q 0=0:=by
  simp [bL]
 rw [AV,e,iV,fN,eR] at h;rw [h,nJ,←Nat.pow_mul,←eS]
theorem a2f (hx:Rd w A n cap xs)(hl:n≤67108864)(h0:nv xs≠0)(hm:1≤m)(hm2:m≤dR (nv xs))(hK1:m+1≤K)(hK2:K≤m+1):aQ aM 116 #[up A n cap,no (K:Int)] w (QO w (nv xs) K):=by
 have hbl:dR (nv xs)≤64*n:=u3 (by rw [Nat.pow_mul,←nJ,←hx.len];exact kH hx.wf);have H0:=Lib.hid h0;have HK:Hid (K=m+1):=Nat.le_antisymm hK2 hK1;clear h0
 go_enter Tryz.func116,Tryz.ntmps116
 go_wp2_with fail
 refine (B5 hx i9).mono ?_;rintro e w1 ⟨b,hb,rfl,hx1⟩;have hb1:b≤64*n:=by rw [hb.out];exact hbl
 have hb2:m≤b:=by rw [hb.out];exact hm2
 have bz:((b:Int)==0)=false:=by simp;omega
 clear hbl hm2;obtain⟨t,ht⟩:∃t,(b+m)/K=t:=⟨_,rfl⟩
 have htb:t≤b:=by
  rw [←ht,HK.out]
  refine Nat.le_of_lt_succ ((Nat.div_lt_iff_lt_mul i9).2 ?_)
  have h3:(b+1)*(m+1)=b*m+b+m+1:=by rw [eE,dE];omega
  rw [Nat.succ_eq_add_one,h3]
  generalize b*m=z
  omega
 obtain⟨q,hq⟩:∃q,t/64=q:=⟨_,rfl⟩;obtain⟨s,hs⟩:∃s,t%64=s:=⟨_,rfl⟩;have hqb:q≤n:=by omega
 have hqt:t=64*q+s:=by omega
 have hs64:s<64:=by omega
 have Q24:∀(P:cO) (t':aS) (w:a6),(binOp .quo t' (no ((b:Int)+(K:Int)-1)) (no (K:Int))).run P w= .ok (no t) w:=by
  rw [←ht]
  exact a0C (a:=(b:Int)+(K:Int)-1) (b:=(K:Int)) (x:=b+m) (y:=K) i9 J i9 i9
 have Q25:∀(P:cO) (t':aS) (w:a6),(binOp .quo t' (no (t:Int)) (no 64)).run P w= .ok (no q) w:=by
  rw [←hq]
  exact FB (x:=t) (y:=64) i9 i9
 have Q38:∀(P:cO) (t':aS) (w:a6),(binOp .rem t' (no (t:Int)) (no 64)).run P w= .ok (no s) w:=by
  rw [←hs]
  exact NZ (x:=t) (y:=64) i9 i9
 have hp:2^s≤2^63:=fZ i9 i9;obtain⟨z,hz⟩:∃z,2^s=z:=⟨_,rfl⟩;have hzb:z≤18446744073709551615:=by omega
 have Q39:∀(P:cO) (t':aS) (w:a6),(binOp .shl t' (t9 1) (no (s:Int))).run P w= .ok (t9 z) w:=by
  have:=SZ (x:=1) (s:=s) i9
  rw [Nat.one_mul,iW i9,hz] at this
  exact this
 have HT:Hid (t=(dR (nv xs)+K-1)/K):=by
  show _=_
  rw [←ht,←hb.out];congr 1
  omega
 have HTK:Hid (t*m≤2*b):=by
  have h1:=Nat.div_mul_le_self (b+m) K
  rw [ht,HK.out,sO] at h1
  show _≤_
  omega
 have HZ:=Lib.hid hz;have HQT:=Lib.hid hqt;have hmk:=mB (P:=aM) Tryz.underlying22 j9 J yd ((q:Int)+1) i9 i9;have et:((q:Int)+1).toNat=q+1:=by omega
 rw [et] at hmk;clear et ht hq hs hp hz hqt
 go_upto_region 6 with (first
  | ((with_reducible refine dU (some 24) ?_);refine oJ rfl rfl rfl rfl rfl Q24 ?_;intro r hr;obtain rfl:t=r:=hr.out.symm;clear hr)
  | ((with_reducible refine dU (some 25) ?_);refine oJ rfl rfl rfl rfl rfl Q25 ?_;intro r hr;obtain rfl:q=r:=hr.out.symm;clear hr)
  | ((with_reducible refine dU (some 33) ?_);refine oJ rfl rfl rfl rfl rfl Q24 ?_;intro r hr;obtain rfl:t=r:=hr.out.symm;clear hr))
 clear hmk;obtain⟨g,hg⟩:∃g,w1.heap.size=g:=⟨_,rfl⟩;rw [hg];obtain⟨wa,hwa⟩:∃wa,w1.alloc (.cells (zc (.int .u64 0) (q+1)) 43)=wa:=⟨_,rfl⟩;rw [hwa]
 have hbk:Bk wa g 43 ((dF (q+1) 0).map bF):=by
  rw [←hwa,←hg,←kG];exact Bk.new' _ _ _
 have hea:Ext w wa:=by rw [←hwa];exact hx1.alloc _
 have hgs:w.heap.size≤g:=by rw [←hg];exact hx1.size
 clear hg hwa;obtain⟨o,ho,_,hco⟩:=hbk.word (oZ _) (i:=q) (by rw [List.length_replicate];omega);have hfr:=hbk.frozen q
 go_upto_region 7 with (first
  | ((with_reducible refine dU (some 36) ?_);refine oJ rfl rfl rfl rfl rfl Q25 ?_;intro r hr;obtain rfl:q=r:=hr.out.symm;clear hr)
  | ((with_reducible refine dU (some 38) ?_);refine oJ rfl rfl rfl rfl rfl Q38 ?_;intro r hr;obtain rfl:s=r:=hr.out.symm;clear hr)
  | ((with_reducible refine dU (some 39) ?_);refine fD rfl rfl rfl rfl rfl Q39 ?_;intro r hr hrb;obtain rfl:z=r:=hr.out.symm;clear hr hrb))
 have hRd:Rd (wa.setCell ⟨g,q,none⟩ (t9 (z:Int))) (some ⟨g,0,none⟩) (q+1) (q+1) ((dF (q+1) 0).set q z):=by
  have hB:Bk (wa.setCell ⟨g,q,none⟩ (t9 (z:Int))) g 43 (((dF (q+1) 0).set q z).map bF):=by
   rw [←eM];exact hbk.set _ _
  have:=hB.rd (j0 (oZ _) q (by rw [dJ];omega)) (o:=0) (n:=q+1) (cap:=q+1) (aU _) (by rw [List.length_set,List.length_replicate];omega) (by rw [eV];omega)
  rw [iN,List.take_of_length_le (by rw [List.length_set,List.length_replicate];omega)] at this
  exact this
 have hN0:Hid (nv ((dF (q+1) 0).set q z)=2^t):=by
  show _=_
  rw [←HZ.out,V1,←HQT.out]
 have ek:=Lib.hid (show (K:Int)-1=(m:Int) by omega)
 have hXn:Hid ((wd (nv xs)).length≤n):=by
  have:=iT hx.wf
  rw [hx.len] at this
  exact this
 have hPL:∀S,S≤2^t→(wd (S^m)).length≤2*n+1:=by
  intro S hS
  refine NF (m:=2*b) i9 ?_
  refine a8 (Nat.pow_le_pow_left hS m) ?_
  rw [←Nat.pow_mul]
  exact fZ i9 HTK.out
 have HPL:=Lib.hid hPL;have hWm:Hid ((wd m).length≤1):=kK (by rw [dJ,Nat.pow_one];omega)
 have hSL:∀S,S≤2^t→(wd S).length≤q+1:=by
  intro S hS
  exact NF (m:=t) (by rw [HQT.out];omega) hS
 have HSL:=Lib.hid hSL;clear hPL hSL hbk hco hfr ho
 go_loopw [6] (fun u wr=>∃(A':Option a7) (n' c' S:Nat) (l:List Nat),u= up A' n' c'∧n'≤q+1∧Rd wr A' n' c' l∧Hid (nv l=S)∧Hid (0<S)∧Hid (nv xs<(S+1)^K)∧Hid (S≤2^t)∧Ext w wr) (fun u wr=>numAt wr u)
 case atStart=>exact⟨_,q+1,q+1,2^t,_,rfl,aU _,hRd,hN0,Nat.two_pow_pos t,W8 i9 HT.out,aU _,hea.setCell hgs _⟩
 case round=>
  obtain⟨A2,n2,c2,S,l,rfl,hn2,hrd,hS,hS0,hup,hST,hr⟩:=hrel
  clear hRd hN0 hea hgs hx1
  have hP0:Hid (S^m≠0):=Nat.ne_of_gt (iI hS0.out)
  go_wp2_with fail
  rw [ek.out]
  refine (a2g hrd i9 (k:=m) i9 (by rw [hS.out];exact a8 (HPL.out S hST.out) i9)).mono ?_
  rintro e w3 ⟨A3,n3,c3,rfl,hn3,hr3,ho3,hx3⟩
  rw [hS.out] at hn3 hr3
  have hn3b:n3≤2*n+1:=by rw [hn3.out];exact HPL.out S hST.out
  go_wp2_with fail
  refine (yD (hx.ext (hr.trans hx3)) i9 hr3 i9 (by rw [dZ];exact hP0.out)).mono ?_
  rintro e w4 ⟨Aq,nq,cq,Ar,nr,cr,rfl,hnq,hrq,hoq,hnr,hrr,hor,hx4⟩
  rw [dZ] at hnq hrq
  have hnqb:nq≤n:=by rw [hnq.out];exact a8 (iP (gN _ _)) hXn.out
  clear ho3 hoq hnr hrr hor
  go_wp2_with fail
  rw [ek.out]
  refine (MB (hrd.ext (hx3.trans hx4)) i9 (x:=m) i9).mono ?_
  rintro e w5 ⟨A5,n5,c5,rfl,hn5,hr5,ho5,hx5⟩
  rw [hS.out] at hn5 hr5
  have hn5b:n5≤q+2:=by
   have h1:=xV S m
   have h2:=HSL.out S hST.out
   have h3:=hWm.out
   rw [hn5.out];omega
  go_wp2_with fail
  refine (B6 hr5 i9 (hrq.ext hx5) i9).mono ?_
  rintro e w6 ⟨A6,n6,c6,rfl,hn6,hr6,ho6,hx6⟩
  rw [dZ,dZ] at hn6 hr6
  have hn6b:n6≤q+n+3:=by
   have h1:=xW (S*m) (nv xs/S^m)
   rw [←hn5.out,←hnq.out,←hn6.out] at h1
   omega
  clear ho5 ho6
  go_wp2_with fail
  refine (FV hr6 i9 (v:=K) i9 i9).mono ?_
  rintro e w7 ⟨A7,n7,c7,r7,rfl,hr7k,hr7b,hn7,hr7,ho7,hx7⟩
  rw [dZ] at hn7 hr7
  have hx37:Ext wr w7:=hx3.trans (hx4.trans (hx5.trans (hx6.trans hx7)))
  have hn7b:n7≤q+n+3:=by
   rw [hn7.out];exact a8 (iP (gN _ _)) (by rw [←hn6.out];exact hn6b)
  obtain⟨N,hN⟩:∃N,(S*m+nv xs/S^m)/K=N:=⟨_,rfl⟩
  rw [hN] at hn7 hr7
  have HN:=Lib.hid hN
  clear hr7k ho7 hN
  go_wp2_with fail
  refine (vF hr7 (hrd.ext hx37)).mono ?_
  rintro e w8 ⟨c,hc,hcl,hch,rfl,hx8⟩
  rw [dZ,hS.out] at hc
  by_cases hlt:c<0
  ·have hNS:N<S:=by rw [hc.out] at hlt;exact nH.1 hlt
   have HNS:=Lib.hid hNS
   clear hNS
   have hab:Hid (nv xs<(N+1)^K):=by
    have h1:=YV (X:=nv xs) (s:=S) (q:=nv xs/S^m) (m:=m) (by
     have:=sP (nv xs) (Nat.pos_of_ne_zero hP0.out)
     rw [dH] at this
     exact this)
    rw [←HK.out,HN.out] at h1
    exact h1
   go_wp2_with fail
   go_roundw
   case rel=>
    refine⟨A7,n7,c7,N,wd N,rfl,?_,hr7.ext hx8,dZ N,?_,hab,a8 (Nat.le_of_lt HNS.out) hST.out,hr.trans (hx37.trans hx8)⟩
    ·rw [hn7.out];exact HSL.out N (a8 (Nat.le_of_lt HNS.out) hST.out)
    ·refine Nat.pos_of_ne_zero (fun e=>?_)
     have:=hab.out
     rw [e,eR,Nat.one_pow] at this
     exact H0.out i9
   case measure=>
    rw [(hr7.ext hx8).numAt,hrd.numAt,dZ,hS.out]
    exact HNS.out
  ·have hge:0≤c:=by omega
   have hNS:Hid (S≤N):=by
    rw [hc.out] at hlt
    exact rA (fun h=>hlt (nH.2 h))
   go_wp2_with fail
   refine (kY (hrd.ext (hx37.trans hx8))).mono ?_
   rintro e w9 ⟨A9,n9,c9,rfl,hn9,hr9,ho9,hx9⟩
   rw [hS.out] at hn9 hr9 ho9
   go_wp2_with fail
   go_ret
   have hx08:=hr.trans (hx37.trans hx8)
   refine⟨S,⟨?_,hup.out⟩,A9,n9,c9,rfl,hn9,hr9,ho9.mono hx08.size,hx08.trans hx9⟩
   rw [HK.out]
   refine YU hS0.out J ?_
   rw [←HK.out,HN.out]
   exact hNS.out
theorem a3s (h:X≠0):1≤dR X:=Nat.pos_of_ne_zero (fun e=>h (pZ.1 e))
theorem IsRoot.zero (hk:1≤k):IsRoot 0 k 0:=⟨by rw [Nat.zero_pow i9];exact aU _,by rw [eR,Nat.one_pow];omega⟩
theorem IsRoot.le_self {r:Nat}(hk:1≤k)(h:IsRoot X k r):r≤X:=by
 refine a8 ?_ h.1;rcases lT r with e | e
 ·omega
 have:=fZ e hk;rw [Nat.pow_one] at this;exact this
def a3Y (w:a6)(X:Nat)(e:eF)(w':a6):Prop:=∃r,Hid (IsRoot X 2 r)∧QR w r (X-r*r) e w'
def a3X (w:a6)(X:Nat)(e:eF)(w':a6):Prop:=∃r,Hid (IsRoot X 2 r)∧RetQRA w r (X-r*r) e w'
theorem a2k (hx:Rd w A n cap xs)(hl:n≤67108864):aQ aM 85 #[up A n cap] w (a3X w (nv xs)):=by
 have hXn:Hid ((wd (nv xs)).length≤n):=by
  have:=iT hx.wf
  rw [hx.len] at this
  exact this
 go_enter Tryz.func85,Tryz.ntmps85
 go_wp2_with fail
 refine (kY hx).mono ?_;rintro e w1 ⟨A1,n1,c1,rfl,hn1,hr1,ho1,hx1⟩;have hn1b:n1≤n:=by rw [hn1.out];exact hXn.out
 go_wp2_with fail
 have hroot:aQ aM 116 #[up A1 n1 c1,no 2] w1 (QO w1 (nv xs) 2):=by
  by_cases h0:nv xs=0
  ·refine (a2e hr1 i9 (by rw [dZ];exact h0)).mono ?_
   intro e w2 h
   exact⟨0,(show IsRoot _ _ _ by rw [h0];exact IsRoot.zero i9),h⟩
  ·have:=a2f hr1 i9 (by rw [dZ];exact h0) (m:=1) (K:=2) (aU _) (by rw [dZ];exact a3s h0) i9 i9
   rw [dZ] at this
   exact this
 refine hroot.mono ?_;rintro e w2 ⟨r,hir,A2,n2,c2,rfl,hn2,hr2,ho2,hx2⟩
 have hrr:Hid (r*r≤nv xs):=by
  have:=hir.out.1
  rw [Nat.pow_two] at this
  exact this
 have hn2b:n2≤n:=by rw [hn2.out];exact a8 (iP (hir.out.le_self i9)) hXn.out
 clear hroot
 go_wp2_with fail
 refine (ET hr2 i9).mono ?_;rintro e w3 ⟨A3,n3,c3,rfl,hn3,hr3,ho3,hx3⟩;rw [dZ] at hn3 hr3;have hn3b:n3≤n:=by rw [hn3.out];exact a8 (iP hrr.out) hXn.out
 go_wp2_with fail
 refine (ES (hx.ext (hx1.trans (hx2.trans hx3))) hr3 (by rw [dZ];exact hrr.out)).mono ?_;rintro e w4 ⟨A4,n4,c4,rfl,hn4,hr4,ho4,hx4⟩;rw [dZ] at hn4 hr4 ho4
 go_wp2_with fail
 go_ret2
 have hx34:=hx3.trans hx4;exact⟨r,hir,A2,n2,c2,A4,n4,c4,rfl,hn2,hr2.ext hx34,(ho2.ext hx34).mono hx1.size,hn4,hr4,ho4.mono (hx1.trans (hx2.trans hx3)).size,hx1.trans (hx2.trans hx34),fun p p' hp hp'=>by have h1:=ho2.block p hp;have h2:=ho4.block p' hp';have h3:=hx3.size;omega⟩
theorem a2l (hx:Rd w A n cap xs)(hl:n≤67108864):aQ aM 85 #[up A n cap] w (a3Y w (nv xs)):=(a2k hx hl).mono fun e w' ⟨r,h1,h2⟩=>⟨r,h1,h2.old⟩
theorem aB:AggT aM 24 2:=⟨fun _=>by kernel_rfl,fun _=>by kernel_rfl⟩
theorem bJ:AggT aM 26 4:=⟨fun _=>by kernel_rfl,fun _=>by kernel_rfl⟩
theorem eW:∀w,(isAgg 4).run aM w= .ok false w:=fun _=>by kernel_rfl
theorem dY:∀w,(isAgg 22).run aM w= .ok false w:=fun _=>by kernel_rfl
theorem cM:Tryz.prog.follows .mixedOrders=true:=by kernel_rfl
def Is (u v:aF)(_:a6):Prop:=v=u
def ZR (b:Nat)(z:Int)(v:aF)(w:a6):Prop:=∃s A n c,v= O s A n c∧Zr w b s A n c z
def WR (b:Nat)(m:Nat)(v:aF)(w:a6):Prop:=∃A n c,v= up A n c∧n=(wd m).length∧Own w b 43 1 A n c ((wd m).map bF)
def Wi (w:a6)(A:Option a7)(n c:Nat)(m:Nat):Prop:=∃xs,Rd w A n c xs∧nv xs=m
theorem Wi.ext (h:Wi w A n c m)(e:Ext w w'):Wi w' A n c m:=by
 obtain⟨xs,h1,h2⟩:=h;exact⟨xs,h1.ext e,h2⟩
theorem Zi.wi (h:Zi w s A n c z):Wi w A n c z.natAbs:=by
 obtain⟨xs,h1,h2⟩:=h;exact⟨xs,h1,by rw [←h2,mY]⟩
theorem Own.wi (h:Own w b t 1 A n c ((wd m).map bF)):Wi w A n c m:=⟨_,h.rd (qX _),dZ m⟩
theorem Wi.len (h:Wi w A n c m):(wd m).length≤n:=by
 obtain⟨xs,h1,rfl⟩:=h;have:=iT h1.wf;rw [h1.len] at this;exact this
def PR (b:Nat)(T:aS)(vs:List aF)(v:aF)(w:a6):Prop:=∃g,v= i5 g 0∧b≤g∧Bk w g T vs
theorem PR.old (h:PR b T vs v w):CE w v:=by
 obtain⟨g,rfl,_,h2⟩:=h;intro k f;rw [NX f];exact h2.lt
theorem sI (hn:n=(wd m).length)(ho:Own w b 43 1 A n c ((wd m).map bF)):Zr w b false A n c (m:Int):=
 lE (m:=m) (s:=false) (by rw [nT];symm;exact decide_eq_false i9) hn ho (nT m)
def T2 (R S:aF→a6→Prop)(v:aF)(w:a6):Prop:=∃a b,v= .tuple #[a,b]∧R a w∧S b w
def T3 (R S T:aF→a6→Prop)(v:aF)(w:a6):Prop:=∃a b c,v= .tuple #[a,b,c]∧R a w∧S b w∧T c w
def Gv (w:a6)(R:aF→a6→Prop)(e:eF)(w':a6):Prop:=∃v,e= .returned v∧R v w'∧Ext w w'
section
variable {w w':a6}{b:Nat}{z x y:Int}{v u:aF}{R S T:aF→a6→Prop}
theorem gz (hb:b≤w.heap.size)(e:eF)(w':a6)(h:nK w z e w'):Gv w (ZR b z) e w':=by
 obtain⟨s,A,n,c,rfl,h1,h2⟩:=h;exact⟨_,rfl,⟨s,A,n,c,rfl,h1.mono hb⟩,h2⟩
theorem a0K (hb:b≤w.heap.size)(e:eF)(w':a6)(h:GP w x y er e w'):Gv w (T3 (ZR b x) (ZR b y) (Is (no er))) e w':=by
 obtain⟨s,A,n,c,s',B,m,c',rfl,h1,h1',h2⟩:=h;exact⟨_,rfl,⟨_,_,_,rfl,⟨s,A,n,c,rfl,h1.mono hb⟩,⟨s',B,m,c',rfl,h1'.mono hb⟩,rfl⟩,h2⟩
theorem gw (hb:b≤w.heap.size)(e:eF)(w':a6)(h:jR w m e w'):Gv w (WR b m) e w':=by
 obtain⟨A,n,c,rfl,h1,h2,o,f⟩:=h;exact⟨_,rfl,⟨A,n,c,rfl,h1.out,o.mono hb⟩,f⟩
theorem gwe (hb:b≤w.heap.size)(e:eF)(w':a6)(h:yN w m er e w'):Gv w (T2 (WR b m) (Is (no er))) e w':=by
 obtain⟨A,n,c,rfl,h1,h2,o,f⟩:=h;exact⟨_,rfl,⟨_,_,rfl,⟨A,n,c,rfl,h1.out,o.mono hb⟩,rfl⟩,f⟩
theorem Gv.imp (hi:∀v w,R v w→S v w)(e:eF)(w':a6)(h:Gv w R e w'):Gv w S e w':=by
 obtain⟨v,rfl,h1,h2⟩:=h;exact⟨v,rfl,hi _ _ h1,h2⟩
theorem ZR.imp (hb:b≤b')(v:aF)(w:a6)(h:ZR b' z v w):ZR b z v w:=by
 obtain⟨s,A,n,c,rfl,h⟩:=h;exact⟨s,A,n,c,rfl,h.mono hb⟩
theorem WR.imp (hb:b≤b')(v:aF)(w:a6)(h:WR b' m v w):WR b m v w:=by
 obtain⟨A,n,c,rfl,h1,h2⟩:=h;exact⟨A,n,c,rfl,h1,h2.mono hb⟩
theorem T2.imp {R' S':aF→a6→Prop}(h1:∀v w,R v w→R' v w)(h2:∀v w,S v w→S' v w)(v:aF)(w:a6)(h:T2 R S v w):T2 R' S' v w:=by
 obtain⟨a,c,rfl,o,f⟩:=h;exact⟨a,c,rfl,h1 _ _ o,h2 _ _ f⟩
theorem T3.imp {R' S' T':aF→a6→Prop}(h1:∀v w,R v w→R' v w)(h2:∀v w,S v w→S' v w)(h0:∀v w,T v w→T' v w)(v:aF)(w:a6)(h:T3 R S T v w):T3 R' S' T' v w:=by
 obtain⟨a,c,d,rfl,E,f,o⟩:=h;exact⟨a,c,d,rfl,h1 _ _ E,h2 _ _ f,h0 _ _ o⟩
theorem Is.imp {u:aF}(v:aF)(w:a6)(h:Is u v w):Is u v w:=h
theorem O2 (e:eF)(w':a6)(h:GO z w e w'):Gv w (Is (no z)) e w':=by
 obtain⟨c,h1,_,_,rfl,h2⟩:=h;exact⟨_,rfl,(show eL .i64 c=_ by rw [h1.out]),h2⟩
theorem BH {c:Bool}(e:eF)(w':a6)(h:uE c w e w'):Gv w (Is (.bool c)) e w':=⟨_,h.1,rfl,h.2⟩
end
section
variable {w:a6}{b:Nat}(hb:b≤w.heap.size){s t u:Bool}{A B C:Option a7}{n cap m cap' k cap'':Nat}{x y z:Int}
include hb
theorem tV (hx:Zi w s A n cap x)(hl:n≤274877906944)(hy:Zi w t B m cap' y)(hl':m≤274877906944):aQ aM 77 #[O s A n cap,O t B m cap'] w (Gv w (ZR b (x+y))):=(CY hx hl hy hl').mono (gz hb)
theorem vT (hx:Zi w s A n cap x)(hl:n≤274877906944)(hy:Zi w t B m cap' y)(hl':m≤274877906944):aQ aM 84 #[O s A n cap,O t B m cap'] w (Gv w (ZR b (x-y))):=(RH hx hl hy hl').mono (gz hb)
theorem tT (hx:Zi w s A n cap x)(hl:n≤68719476736)(hy:Zi w t B m cap' y)(hl':m≤68719476736):aQ aM 74 #[O s A n cap,O t B m cap'] w (Gv w (ZR b (x*y))):=(HJ hx hl hy hl').mono (gz hb)
theorem FI (hx:Zi w s A n cap x)(hl:n≤68719476736)(hy:Zi w t B m cap' y)(hl':m≤68719476736)(hz:Zi w u C k cap'' z)(hl'':k≤68719476736):aQ aM 73 #[O s A n cap,O t B m cap',O u C k cap''] w (Gv w (ZR b (x*y+z))):=(RO hx hl hy hl' hz hl'').mono (gz hb)
theorem tS (hx:Zi w s A n cap x)(hl:n≤68719476736):aQ aM 53 #[O s A n cap] w (Gv w (ZR b (-x))):=(RN hx hl).mono (gz hb)
theorem a0Y (hx:Zi w s A n cap x)(hl:n≤68719476736):aQ aM 86 #[O s A n cap] w (Gv w (ZR b (x.natAbs:Int))):=(RQ hx hl).mono (gz hb)
theorem l7 {v:Int}(h1: -9223372036854775808≤v)(h2:v≤9223372036854775807):aQ aM 78 #[no v] w (Gv w (ZR b v)):=(RJ h1 h2).mono (gz hb)
theorem FH (hx:Zi w s A n cap x)(hl:n≤68719476736)(hy:Zi w t B m cap' y)(hl':m≤68719476736)(h0:y≠0):aQ aM 83 #[O s A n cap,O t B m cap'] w (Gv w (T3 (ZR b (x.tdiv y)) (ZR b (x.tmod y)) (Is (no 0)))):=(RG hx hl hy hl' h0).mono (a0K hb)
omit hb in
theorem a0S (hn:n=(wd m).length)(ho:Own w b 43 1 A n cap ((wd m).map bF)):aQ aM 93 #[.bool s,up A n cap] w (Gv w (ZR b (sg s m))):=
 (mQ hn).mono fun e w' h=>by
  obtain⟨s',rfl,h1,h2⟩:=h
  exact⟨_,rfl,⟨s',A,n,cap,rfl,lE h1.out hn (ho.ext h2) rfl⟩,h2⟩
theorem a1u (hx:Wi w A n cap i)(hl:n≤274877906944)(hy:Wi w B m cap' j)(hl':m≤274877906944)(h0:j≠0)(h1:i%j=0):aQ aM 92 #[up A n cap,up B m cap'] w (Gv w (T2 (WR b (i/j)) (Is (no 0)))):=by
 obtain⟨ys,hy,rfl⟩:=hy;obtain⟨xs,hx,rfl⟩:=hx;exact (a2n hx hl hy hl' h0 h1).mono (gwe hb)
theorem a1t (hx:Wi w A n cap i)(hl:n≤67108864):aQ aM 85 #[up A n cap] w (fun e w'=>∃r,IsRoot i 2 r∧Gv w (T2 (WR b r) (WR b (i-r*r))) e w'):=by
 obtain⟨xs,h1,rfl⟩:=hx;refine (a2l h1 hl).mono ?_;rintro e w' ⟨r,h2,_,_,_,_,_,_,rfl,E,_,h,F,_,o,f⟩;exact⟨r,h2.out,_,rfl,⟨_,_,rfl,⟨_,_,_,rfl,E.out,h.mono hb⟩,⟨_,_,_,rfl,F.out,o.mono hb⟩⟩,f⟩
theorem BN (hx:Zi w s A n cap x)(hl:n≤68719476736)(hy:Zi w t B m cap' y)(hl':m≤68719476736):aQ aM 51 #[O s A n cap,O t B m cap'] w (Gv w (ZR b (Int.gcd x y:Int))):=(a3z hx hl hy hl').mono (gz hb)
end
section
variable {w:a6}{s t:Bool}{A B:Option a7}{n cap m cap':Nat}{x y:Int}
theorem jH (hx:Zi w s A n cap x)(hl:n≤68719476736):aQ aM 50 #[O s A n cap] w (Gv w (Is (no (bM x 0)))):=(CX hx hl).mono O2
theorem rX (hx:Zi w s A n cap x)(hl:n≤68719476736)(hy:Zi w t B m cap' y)(hl':m≤68719476736):aQ aM 76 #[O s A n cap,O t B m cap'] w (Gv w (Is (no (bM x y)))):=(RP hx hl hy hl').mono O2
end
def TA (R S T:aF→a6→Prop)(v:aF)(w:a6):Prop:=∃a b c,v= .tuple #[a,b,c]∧R a w∧S b w∧T c w∧∀g,iZ a g→iZ b g→False
theorem TA.imp {R S T R' S' T':aF→a6→Prop}(h1:∀v w,R v w→R' v w)(h2:∀v w,S v w→S' v w)(h3:∀v w,T v w→T' v w):∀v w,TA R S T v w→TA R' S' T' v w:=by
 rintro v w ⟨a,b,c,h,r,s,t,ap⟩;exact⟨a,b,c,h,h1 _ _ r,h2 _ _ s,h3 _ _ t,ap⟩
theorem TA.t3 {R S T:aF→a6→Prop}:∀v w,TA R S T v w→T3 R S T v w:=by
 rintro v w ⟨a,b,c,h,r,s,t,_⟩;exact⟨a,b,c,h,r,s,t⟩
theorem tQ (h:iZ (O s A n c) g):∃p,A=some p∧p.block=g:=by
 rcases h with h | ⟨_,p,_,_,h,h2⟩
 ·cases h
 injection h with h;injection h with h;injection h with _ h;injection h with h _;injection h with h;exact⟨p,h,h2⟩
theorem Zr.new (h:Zr w b s A n c x):∀g,iZ (O s A n c) g→b≤g:=fun g hg=>by
 obtain⟨p,h1,h2⟩:=tQ hg
 have:=(h.own.block p h1).1
 omega
theorem Zr.old (h:Zr w b s A n c x):∀g,iZ (O s A n c) g→g<w.heap.size:=fun g hg=>by
 obtain⟨p,h1,h2⟩:=tQ hg
 have:=(h.own.block p h1).2
 omega
theorem ZR.old (h:ZR b x v w):CE w v:=by
 obtain⟨s,A,n,c,rfl,h⟩:=h;exact h.old
section
variable {P:cO}{Q:dX→Act→a6→Prop}{n:Nat}{l:Fr}{w:a6}{ops:Array bE}{rest:List bE}{d:Nat}{op:Op}{ty:aS}{pos:String}{af:Array fL}{gd:Option (Nat×Bool)}
theorem iF (hw:dD ops l gd=some true)(hk:kL l op=true)(cells:List aF)(hr:∀w,(execOp (rho l) ⟨some d,op,ty,pos,af,gd⟩).run P w= .ok (.value (up (some ⟨w.heap.size,0,none⟩) k k)) (w.alloc (.cells cells.toArray e)))(h:∀g w',NewBk w w' g e cells→wl P ops Q n rest ((d,up (some ⟨g,0,none⟩) k k)::l) w')(hn:d<n:=by decide):wl P ops Q n (⟨some d,op,ty,pos,af,gd⟩::rest) l w:=
 gO hw hn (fun a f=>by rw [tX hk f];exact hr w) (h _ _ (NewBk.mk' w e cells))
end
def O1 (b x:Nat)(v:aF)(w:a6):Prop:=∃A,v= up A 1 1∧Own w b 43 1 A 1 1 [bF x]
theorem O1.mk_ {x:Nat}(h:NewBk w w' g 43 [bF x])(hb:b≤w.heap.size):Own w' b 43 1 (some ⟨g,0,none⟩) 1 1 [bF x]:=
 Own.mk_ (by rw [←h.at_];exact hb) h.bk (aU _) (by rw [eV];omega) J rfl
theorem EH {x:Nat}(h:Own w b 43 1 A 1 1 [bF x])(hx:x≤18446744073709551615):Wi w A 1 1 x:=
 ⟨[x],h.rd (GM (by rw [dJ];omega)),xM x⟩
theorem vB {x:Nat}(h:Own w b 43 1 A 1 1 [bF x])(hx:x≤18446744073709551615)(h0:x≠0):Own w b 43 1 A 1 1 ((wd x).map bF):=by
 rw [zJ (by rw [dJ];omega) h0];exact h
theorem vP {x:Nat}(hx:x≤18446744073709551615)(h0:x≠0):1=(wd x).length:=by rw [zJ (by rw [dJ];omega) h0];rfl
section
variable {P:cO}{Q:dX→Act→a6→Prop}{n:Nat}{l:Fr}{w:a6}
def nY (n:Nat)(ops:Array bE):Nat→List bE→Fr→Option (Fr×List bE)
 | 0,rest,l=>some (l,rest)
 | _+1,[],_=>none
 | k+1,⟨some d,op,_,_,_,gd⟩::rest,l=>
  match Nat.blt d n with
  | true=>
   match dD ops l gd with
   | some true=>
    match op with
    | .move x=>match cB l x with
     | some v=>nY n ops k rest ((d,v)::l)
     | none=>none
    | .assign x=>match cB l x with
     | some v=>nY n ops k rest ((d,v)::l)
     | none=>none
    | _=>none
   | some false=>nY n ops k rest ((d,undef)::l)
   | none=>none
  | false=>none
 | _+1,_::_,_=>none
theorem mv {ops:Array bE}:∀(k:Nat){rest rest':List bE}{l l':Fr},nY n ops k rest l=some (l',rest')→wl P ops Q n rest' l' w→wl P ops Q n rest l w
 | 0,rest,rest',l,l',h,hw=>by
  simp only [nY,f7,Prod.mk.injEq] at h
  obtain⟨rfl,rfl⟩:=h
  exact hw
 | k+1,[],rest',l,l',h,hw=>by simp [nY] at h
 | k+1,⟨none,op,ty,pos,af,gd⟩::rest,rest',l,l',h,hw=>by simp [nY] at h
 | k+1,⟨some d,op,ty,pos,af,gd⟩::rest,rest',l,l',h,hw=>by
  unfold nY at h
  split at h
  ·rename_i f
   have hd':d<n:=Nat.le_of_ble_eq_true f
   split at h
   ·rename_i hg
    split at h
    ·split at h
     ·rename_i hx
      exact S8 hg hx hd' (mv k h hw)
     ·cases h
    ·split at h
     ·rename_i hx
      exact SH hg hx hd' (mv k h hw)
     ·cases h
    ·cases h
   ·rename_i hg
    exact S4 hg hd' (mv k h hw)
   ·cases h
  ·cases h
theorem sr {y:Code}(h:wl P ol.toArray (Exit.then (fun a w=>y.wp P Q a w) Q) n ol l w):cw P Q n (.seq (.region id ol.toArray false) y) l w:=aD (bH h)
theorem aG {y:Code}(h:cw P Q n y l w):wl P ops (Exit.then (fun a w=>y.wp P Q a w) Q) n [] l w:=cF (aL h)
theorem pu (hk:(dD ops l gd==some true&&kL l op&&Nat.blt d n)=true)(hr:(execOp (rho l) ⟨some d,op,ty,pos,af,gd⟩).run P w= .ok (.value v) w)(h:wl P ops Q n rest ((d,v)::l) w):wl P ops Q n (⟨some d,op,ty,pos,af,gd⟩::rest) l w:=by
 rw [fB,fB,beq_iff_eq] at hk;exact I9 hk.1.1 hk.1.2 (Nat.le_of_ble_eq_true hk.2) hr h
section
variable {ops:Array bE}{rest:List bE}{d:Nat}{ty:aS}{pos:String}{af:Array fL}{gd:Option (Nat×Bool)}{w0:a6}
theorem bx {x:cR}(vs:List aF)(h0:Ext w0 w)(hx:cB l x=some v)(hk:(dD ops l gd==some true&&Nat.blt d n)=true)(hv:v.cells=vs.toArray)(h:∀g w',Bk w' g t vs→w0.heap.size≤g→Ext w w'→Ext w0 w'→wl P ops Q n rest ((d,i5 g 0)::l) w'):wl P ops Q n (⟨some d,.box t x,ty,pos,af,gd⟩::rest) l w:=by
 rw [fB,beq_iff_eq] at hk;exact nQ hk.1 hx hv (hn:=(Nat.le_of_ble_eq_true hk.2)) fun g w' nb=>h g w' nb.bk (by rw [←nb.at_];exact h0.size) nb.ext (h0.trans nb.ext)
theorem fY {x:cR}(vs:List aF)(h0:Ext w0 w)(hq:gp<w.heap.size)(hx:cB l x=some v)(hk:(dD ops l gd==some true&&Nat.blt d n)=true)(hv:v.cells=vs.toArray)(h:∀g w',Bk w' g t vs→w0.heap.size≤g→gp<g→Ext w w'→Ext w0 w'→wl P ops Q n rest ((d,i5 g 0)::l) w'):wl P ops Q n (⟨some d,.box t x,ty,pos,af,gd⟩::rest) l w:=by
 rw [fB,beq_iff_eq] at hk;exact nQ hk.1 hx hv (hn:=(Nat.le_of_ble_eq_true hk.2)) fun g w' nb=>h g w' nb.bk (by rw [←nb.at_];exact h0.size) (by rw [←nb.at_];exact hq) nb.ext (h0.trans nb.ext)
theorem al (vs:List aF)(h0:Ext w0 w)(hz:∀w,(zeroValue t).run P w= .ok (.agg vs.toArray) w)(hk:(dD ops l gd==some true&&Nat.blt d n)=true)(h:∀g w',Bk w' g t vs→w0.heap.size≤g→Ext w w'→Ext w0 w'→wl P ops Q n rest ((d,i5 g 0)::l) w'):wl P ops Q n (⟨some d,.alloc t,ty,pos,af,gd⟩::rest) l w:=by
 rw [fB,beq_iff_eq] at hk;exact iL hk.1 hz J (hn:=(Nat.le_of_ble_eq_true hk.2)) fun g w' nb=>h g w' nb.bk (by rw [←nb.at_];exact h0.size) nb.ext (h0.trans nb.ext)
theorem alq (vs:List aF)(h0:Ext w0 w)(hq:gp<w.heap.size)(hz:∀w,(zeroValue t).run P w= .ok (.agg vs.toArray) w)(hk:(dD ops l gd==some true&&Nat.blt d n)=true)(h:∀g w',Bk w' g t vs→w0.heap.size≤g→gp<g→Ext w w'→Ext w0 w'→wl P ops Q n rest ((d,i5 g 0)::l) w'):wl P ops Q n (⟨some d,.alloc t,ty,pos,af,gd⟩::rest) l w:=by
 rw [fB,beq_iff_eq] at hk;exact iL hk.1 hz J (hn:=(Nat.le_of_ble_eq_true hk.2)) fun g w' nb=>h g w' nb.bk (by rw [←nb.at_];exact h0.size) (by rw [←nb.at_];exact hq) nb.ext (h0.trans nb.ext)
theorem cl {xs:Array cR}{R:aF→a6→Prop}(h0:Ext w0 w)(hc:aQ P f vs.toArray w (Gv w R))(hk:(dD ops l gd==some true&&kL l (.call {callee:= .value (.func f),args:=xs,argTypes:=ts})&&Nat.blt d n)=true)(hr:(execOp (rho l) ⟨some d,.call {callee:= .value (.func f),args:=xs,argTypes:=ts},ty,pos,af,gd⟩).run P w= .ok (.enter f vs.toArray) w)(h:∀v w',R v w'→Ext w w'→Ext w0 w'→wl P ops Q n rest ((d,v)::l) w'):wl P ops Q n (⟨some d,.call {callee:= .value (.func f),args:=xs,argTypes:=ts},ty,pos,af,gd⟩::rest) l w:=by
 rw [fB,fB,beq_iff_eq] at hk;refine IC hk.1.1 hk.1.2 hr (Nat.le_of_ble_eq_true hk.2) hc ?_;rintro _ w' ⟨v,rfl,r,e⟩;exact dO (h v w' r e (h0.trans e))
theorem lo {x:cR}(hT:AggT P T k)(hb:Bk w g T' vs)(us:List aF)(hx:cB l x=some (i5 g off))(hk:(dD ops l gd==some true&&Nat.blt d n&&q8 us.length k&&Nat.ble (off+k) vs.length)=true)(he:(vs.drop off).take k=us)(h:wl P ops Q n rest ((d,.agg us.toArray)::l) w):wl P ops Q n (⟨some d,.load T x,ty,pos,af,gd⟩::rest) l w:=by
 rw [fB,fB,fB,beq_iff_eq] at hk;exact D5 hk.1.1.1 hx (bK hT hb us (sQ hk.1.2) (Nat.le_of_ble_eq_true hk.2) he) (Nat.le_of_ble_eq_true hk.1.1.2) h
theorem so {x y:cR}(hT:AggT P T k)(hb:Bk w g T' vs)(us':List aF)(h0:Ext w0 w)(hg:w0.heap.size≤g)(hx:cB l x=some (i5 g off))(hy:cB l y=some (.agg us.toArray))(hk:(dD ops l gd==some true&&q8 us.length k&&Nat.ble (off+k) vs.length&&us.all (·.oneCell'))=true)(he:jP vs off us=us')(h:∀w',Bk w' g T' us'→Upd g w w'→Ext w0 w'→wl P ops Q n rest l w'):wl P ops Q n (⟨none,.store T x y,ty,pos,af,gd⟩::rest) l w:=by
 rw [fB,fB,fB,beq_iff_eq] at hk;exact D3 hk.1.1.1 hx hy hT (sQ hk.1.1.2) hb (Nat.le_of_ble_eq_true hk.1.2) hk.2 us' he fun w' b u _=>h w' b u (u.ext h0 hg)
end
theorem dk {Rs:List (aF→a6→Prop)}{k:Fr→Prop}(hR:Rs[j]?=some (Is v))(hd:dB ol j=some d)(h:Deps ol Rs w0 w1 k ds ((d,v)::acc)):Deps ol Rs w0 w1 k (j::ds) acc:=
 PF hR hd fun v' _ hr _ _=>by
  obtain rfl:=hr
  exact h
theorem pf (g off:Nat)(hk:(dD ops l gd==some true&&kL l op&&Nat.blt d n)=true)(h:wl P ops Q n rest ((d,i5 g off)::l) w)(hr:(execOp (rho l) ⟨some d,op,ty,pos,af,gd⟩).run P w= .ok (.value (i5 g off)) w:=by kernel_rfl):wl P ops Q n (⟨some d,op,ty,pos,af,gd⟩::rest) l w:=pu hk hr h
theorem bq (h:Nat.ble m k=true):m≤k:=Nat.le_of_ble_eq_true h
theorem aJ (h:a≤b)(k:Nat.ble b c=true):a≤c:=a8 h (Nat.le_of_ble_eq_true k)
end
abbrev S0:aF:= up none 0 0
abbrev F0:aF:= wk
abbrev I0:aF:= no 0
section
variable (P:cO) (n:Nat) (ol:List bE) (vs:List aF) (ws:List a6) (w:a6) (dss:List (List Nat)) (l:Fr) (st:List Nat)
def wE (i t:Nat):Prop:=
 match ol[i]? with
 | some o=>if st.contains i then jA P n (dfr ol vs l (dL dss i)) o (wv ws w t) (match o.dst with | none=> .skip | some _=> .value ((vs[i]?).getD undef)) (wv ws w (t+1)) else jA P n (dfr ol vs l (dL dss i)) o (wv ws w t) (.value ((vs[i]?).getD undef)) (wv ws w t)
 | none=>True
def mO:List (Nat×Nat)→Prop
 | []=>True
 | (i,t)::r=>wE P n ol vs ws w dss l st i t∧mO r
end
def BW (n : Nat)(ol : List bE)(st : List Nat)(l : Fr)(dss rl : List (List Nat))(ps : List (Nat × Nat)): Bool :=
  (ol.zipIdx.all fun (o, i) => (match o.guard with | none => true | some _ => false) && (o.after.toList.all fun e => !Region.binds .any e || decide (e.on < i)) &&
    ((dL rl i).all fun j => decide (j < i) && o.after.toList.any fun e => kN .any e && (e.on == j || (dL rl e.on).contains j)) &&
    ((dL dss i).all fun j => (dL rl i).contains j) &&
    (match o.dst with
     | some d => decide (d < n) && l.all (fun p => p.1 != d) && ol.zipIdx.all (fun (o', j) => j == i || o'.dst != some d)
     | none => st.contains i) &&
    (eI (st.length + 1)).all (fun t => decide (t < mM st (dL rl i)) || (t != 0 && (dL rl (st.getD (t - 1) 0)).contains i) || (st.contains i && t != mM st (dL rl i)) || ps.contains (i, t))) &&
  (eI st.length).all (fun t => decide (st.getD t 0 < ol.length) && (eI t).all fun u => (dL rl (st.getD t 0)).contains (st.getD u 0))
structure DetOkG (n:Nat)(ol:List bE)(st:List Nat)(l:Fr)(dss rl:List (List Nat))(ps:List (Nat×Nat)):Prop where
 guard:∀(i:Nat) (o:bE),ol[i]?=some o→o.guard=none
 back:∀(i:Nat) (o:bE),ol[i]?=some o→∀e∈o.after,kN .any e=true→e.on<i
 reach:∀(i:Nat) (o:bE),ol[i]?=some o→∀j∈dL rl i,j<i∧∃e∈o.after,kN .any e=true∧(e.on=j∨j∈dL rl e.on)
 deps:∀(i:Nat) (o:bE),ol[i]?=some o→∀j∈dL dss i,j∈dL rl i
 val:∀(i:Nat) (o:bE),ol[i]?=some o→∀d,o.dst=some d→d<n∧(∀p∈l,p.1≠d)∧∀(j:Nat) (o':bE),ol[j]?=some o'→j≠i→o'.dst≠some d
 sto:∀(i:Nat) (o:bE),ol[i]?=some o→o.dst=none→i∈st
 pair:∀(i:Nat) (o:bE),ol[i]?=some o→∀t,t≤st.length→mM st (dL rl i)≤t→(t=0∨i ∉ dL rl (st.getD (t-1) 0))→(i∈st→t=mM st (dL rl i))→(i,t)∈ps
 inN:∀t,t<st.length→st.getD t 0<ol.length
 ord:∀t,t<st.length→∀u,u<t→st.getD u 0∈dL rl (st.getD t 0)
theorem a2x {l:Fr}(h:BW n ol st l dss rl ps=true):DetOkG n ol st l dss rl ps:=by
 simp only [BW,fB] at h;obtain⟨h1,h2⟩:=h;have key:=fun (i:Nat) (o:bE) (f:ol[i]?=some o)=>u4 h1 i o f;simp only [fB] at key
 have E:∀t,t<st.length→st.getD t 0<ol.length∧∀u,u<t→st.getD u 0∈dL rl (st.getD t 0):=by
  intro t ht
  rw [gK] at h2
  have:=h2 t (j5.2 ht)
  simp only [fB,decide_eq_true_eq,gK,j5,lL] at this
  exact this
 refine⟨fun i o f=>?_,fun i o f e he hb=>?_,fun i o f j H=>?_,fun i o f j H=>?_,fun i o f d G=>?_,fun i o f G=>?_,fun i o f t ht hc W hs=>?_,fun t ht=>(E t ht).1,fun t ht=>(E t ht).2⟩
 ·have:=(key i o f).1.1.1.1.1;cases hg:o.guard with
  | none=>rfl
  | some g=>rw [hg] at this;cases this
 ·have:=(key i o f).1.1.1.1.2;rw [gK] at this;have:=this e (by simpa using he);simpa [hb] using this
 ·have:=(key i o f).1.1.1.2;rw [gK] at this;have:=this j H;simp only [fB,decide_eq_true_eq,List.any_eq_true,pH,beq_iff_eq,lL] at this;obtain⟨M,e,he,hb,F⟩:=this;exact⟨M,e,by simpa using he,hb,F⟩
 ·have:=(key i o f).1.1.2;rw [gK] at this;simpa using this j H
 ·have:=(key i o f).1.2;rw [G] at this;simp only [fB,decide_eq_true_eq] at this;obtain⟨⟨F,L⟩,U⟩:=this;refine⟨F,fun p V=>?_,fun j o' ho' I e=>?_⟩
  ·rw [gK] at L;simpa using L p V
  have:=u4 U j o' ho';simp only [pH,beq_iff_eq,bne_iff_ne] at this;rcases this with h | h
  ·exact I h
  exact h e
 ·have:=(key i o f).1.2;rw [G] at this;exact lL.1 this
 have:=(key i o f).2;rw [gK] at this;have:=this t (j5.2 i9);simp only [pH,fB,decide_eq_true_eq,bne_iff_ne,ne_eq,lL] at this;rcases this with ((h | h) | h) | h
 ·omega
 ·rcases W with h0 | h0
  ·exact absurd h0 h.1
  exact absurd h.2 h0
 ·exact absurd (hs h.1) h.2
 exact h
section
variable {P:cO}{Q:dX→Act→a6→Prop}{n:Nat}{ol:List bE}{vs:List aF}{ws:List a6}{w:a6}{dss rl:List (List Nat)}{l:Fr}{st:List Nat}{ps:List (Nat×Nat)}
theorem PB:∀{ps:List (Nat×Nat)},mO P n ol vs ws w dss l st ps→∀i t,(i,t)∈ps→wE P n ol vs ws w dss l st i t
 | [],_,i,t,h=>by cases h
 | (j,u)::r,h,i,t,hm=>by
  rcases List.mem_cons.1 hm with e | e
  ·cases e;exact h.1
  ·exact PB h.2 i t e
theorem PU (hk:DetOkG n ol st l dss rl ps)(h:Closed ol listed):∀(i:Nat) (o:bE),ol[i]?=some o→(∀e∈o.after,kN .any e=true→listed.getD e.on false=true)→∀j∈dL rl i,listed.getD j false=true:=by
 intro i
 induction i using Nat.strongRecOn with
 | ind i ih=>
  intro o ho hall j hj
  obtain⟨_,e,he,hb,h1⟩:=hk.reach i o ho j hj
  have hlt:=hk.back i o ho e he hb
  rcases h1 with h1 | h1
  ·rw [←h1];exact hall e he hb
  ·have hN:e.on<ol.length:=Nat.lt_trans hlt (gU.1 ho).1
   exact ih e.on hlt _ (cT hN) (h e.on _ (cT hN) (hall e he hb)) j h1
theorem a2w (hk:DetOkG n ol st l dss rl ps)(ho:mO P n ol vs ws w dss l st ps)(hfin:eo Q .normal n (GI ol vs l) (wv ws w st.length)):∀(fuel:Nat) (listed:Array Bool) (a:Act) (t:Nat),uP ol.length listed≤fuel→listed.size=ol.length→Closed ol listed→t≤st.length→(∀u,u<st.length→listed.getD (st.getD u 0) false=decide (u<t))→Rp n l a→
   (∀i,i<ol.length→listed.getD i false=true→∀d,dB ol i=some d→a.tmps.getD d undef=(vs[i]?).getD undef)→wpAny P .any ol.toArray Q fuel listed a (wv ws w t):=by
 have fin:∀(listed:Array Bool) (a:Act) (t:Nat),(∀i,i<ol.length→listed.getD i false=true)→t≤st.length→(∀u,u<st.length→listed.getD (st.getD u 0) false=decide (u<t))→Rp n l a→
   (∀i,i<ol.length→listed.getD i false=true→∀d,dB ol i=some d→a.tmps.getD d undef=(vs[i]?).getD undef)→Q .normal a (wv ws w t):=by
  intro listed a t hall ht hst hr hv
  have e:t=st.length:=by
   rcases kQ t st.length with h | h
   ·have h1:=hst t h
    rw [hall _ (hk.inN t h)] at h1
    simp at h1
   ·omega
  subst e
  exact hfin a (hr.dfr _ fun j hj d hd=>hv j (j5.1 hj) (hall j (j5.1 hj)) d hd)
 intro fuel
 induction fuel with
 | zero=>
  intro listed a t hf hs hcl ht hst hr hv
  have hall:∀i,i<ol.length→listed.getD i false=true:=by
   intro i hi
   cases h:listed.getD i false with
   | true=>rfl
   | false=>have:=oK hi hs h;omega
  refine⟨?_,fin listed a t hall ht hst hr hv⟩
  refine List.eq_nil_iff_forall_not_mem.2 fun j hj=>?_
  obtain⟨h1,o,hoj,_⟩:=mC.1 hj
  have hjl:j<ol.length:=(gU.1 hoj).1
  rw [mG,hall j hjl] at h1
  cases h1
 | succ fuel ih=>
  intro listed a t hf hs hcl ht hst hr hv
  refine⟨fun h0=>?_,fun i hir=>?_⟩
  ·refine fin listed a t (fun i hi=>?_) ht hst hr hv
   have key:∀k,k≤ol.length→∀i,i<k→listed.getD i false=true:=by
    intro k
    induction k with
    | zero=>intro _ i hi;omega
    | succ k ihk=>
     intro hk' i hi
     have ih':=ihk i9
     rcases kQ i k with h | h
     ·exact ih' i h
     ·have e:i=k:=by omega
      subst e
      cases hb:listed.getD i false with
      | true=>rfl
      | false=>
       have hrdy:i∈Region.ready .any ol.toArray listed:=mC.2 ⟨by rw [mG];exact hb,_,cT i9,fun e he hbb=>ih' _ (hk.back i _ (cT i9) e he hbb)⟩
       rw [h0] at hrdy;cases hrdy
   exact key ol.length (aU _) i hi
  ·obtain⟨hun,o,hoi,hall⟩:=mC.1 hir
   have hil:i<ol.length:=(gU.1 hoi).1
   have hun':listed.getD i false=false:=by rw [←mG];exact hun
   have hrch:=PU hk hcl i o hoi hall
   have hcnt:mM st (dL rl i)≤t:=a2O fun u hu1 hu2 hm=>by
    have h1:=hrch _ hm
    rw [hst u hu2] at h1
    simp at h1;omega
   have hzero:t=0∨i ∉ dL rl (st.getD (t-1) 0):=by
    rcases lT t with h | h
    ·exact cJ h
    ·refine cN fun hm=>?_
     have h1:=hst (t-1) i9
     rw [decide_eq_true i9] at h1
     have hN:=hk.inN (t-1) i9
     have h2:=PU hk hcl _ _ (cT hN) (fun e he hb=>hcl _ _ (cT hN) h1 e he hb) i hm
     rw [hun'] at h2;cases h2
   have hstore:i∈st→t<st.length∧st.getD t 0=i∧t=mM st (dL rl i):=by
    intro hm
    obtain⟨u,hu,heq⟩:=wQ hm
    have hg:st.getD u 0=i:=by rw [bL,cT hu];exact heq
    have h1:=hst u hu
    rw [hg,hun'] at h1
    have h2:¬u<t:=by intro h;rw [decide_eq_true h] at h1;cases h1
    have h3:u=t:=by
     rcases kQ t u with h | h
     ·have h4:=hk.ord u hu t h
      rw [hg] at h4
      have h5:=hrch _ h4
      rw [hst t i9] at h5
      simp at h5
     ·omega
    subst h3
    refine⟨hu,hg,?_⟩
    have h4:=a0k (st:=st) (js:=dL rl i) (t:=u) i9 (fun v hv'=>by rw [←hg];exact hk.ord u hu v hv')
    omega
   have iG:=PB ho i t (hk.pair i o hoi t ht hcnt hzero (fun hm=>(hstore hm).2.2))
   unfold wE at iG
   rw [hoi] at iG
   simp only at iG
   have hacc:Rp n (dfr ol vs l (dL dss i)) a:=hr.dfr _ fun j hj d hd=>by
    have h1:=hrch j (hk.deps i o hoi j hj)
    have h2:=(hk.reach i o hoi j (hk.deps i o hoi j hj)).1
    exact hv j i9 h1 d hd
   have hwant:wK o (yielded ol.toArray a.tmps)=true:=by simp [wK,hk.guard i o hoi]
   unfold wpOp
   rw [qU,hoi]
   simp only
   rw [if_pos hwant]
   refine cJ ?_
   unfold Oper.wp
   cases hd:o.dst with
   | some d=>
    obtain⟨hdn,hfar,hoth⟩:=hk.val i o hoi d hd
    have hvals:∀v,v=(vs[i]?).getD undef→∀j,j<ol.length→(listed.setIfInBounds i true).getD j false=true→∀e,dB ol j=some e→(a.put d v).tmps.getD e undef=(vs[j]?).getD undef:=fun v hve j hj hlj e he=>by
     subst hve
     by_cases hij:i=j
     ·subst hij
      have e1:dB ol i=some d:=by unfold dB;rw [hoi];exact hd
      rw [e1] at he
      cases he
      exact t7 hr.size hdn _
     ·rw [Go.getD_set_ne false hij] at hlj
      have hne:e≠d:=by
       intro hed
       subst hed
       obtain⟨oj,hoj⟩:∃oj,ol[j]?=some oj:=⟨_,cT hj⟩
       refine hoth j oj hoj (mP hij) ?_
       unfold dB at he
       rw [hoj] at he
       exact he
      have:=zV (a:=a) (d:=d) (e:=some e) (fun h=>hne (kO h)) ((vs[i]?).getD undef)
      exact this.trans (hv j hj hlj e he)
    by_cases hnst:i∈st
    ·obtain⟨htl,hgt,_⟩:=hstore hnst
     rw [if_pos (by simpa using hnst)] at iG
     simp only [hd] at iG
     rw [iG a hacc]
     simp only [nN,hd]
     refine ih _ _ (t+1) (by have:=oK hil hs hun';omega) (by simpa using hs) (hcl.set hoi hall) i9 (fun u hu=>?_) (hr.put_far hfar _) (hvals _ J)
     by_cases hut:u=t
     ·subst hut
      rw [hgt]
      simp [hs,hil]
     ·have hne:i≠st.getD u 0:=by
       intro e
       rcases kQ u t with h | h
       ·have h1:=hst u hu
        rw [←e,hun',decide_eq_true h] at h1;cases h1
       ·have h4:=hk.ord u hu t i9
        rw [hgt,←e] at h4
        have:=(hk.reach i o hoi i h4).1
        omega
      rw [Go.getD_set_ne false hne,hst u hu]
      congr 1
      simp only [eq_iff_iff]
      omega
    ·rw [if_neg (by simpa using hnst)] at iG
     rw [iG a hacc]
     simp only [nN,hd]
     refine ih _ _ t (by have:=oK hil hs hun';omega) (by simpa using hs) (hcl.set hoi hall) ht (fun u hu=>?_) (hr.put_far hfar _) (hvals _ J)
     rw [Go.getD_set_ne false (fun e=>hnst (by rw [e,bL,cT hu];exact oG hu))]
     exact hst u hu
   | none=>
    have hm:=hk.sto i o hoi hd
    obtain⟨htl,hgt,_⟩:=hstore hm
    rw [if_pos (by simpa using hm)] at iG
    simp only [hd] at iG
    rw [iG a hacc]
    simp only [nN,hd]
    refine ih _ _ (t+1) (by have:=oK hil hs hun';omega) (by simpa using hs) (hcl.set hoi hall) i9 (fun u hu=>?_) hr (fun j hj hlj e he=>?_)
    ·by_cases hut:u=t
     ·subst hut
      rw [hgt]
      simp [hs,hil]
     ·have hne:i≠st.getD u 0:=by
       intro e
       rcases kQ u t with h | h
       ·have h1:=hst u hu
        rw [←e,hun',decide_eq_true h] at h1;cases h1
       ·have h4:=hk.ord u hu t i9
        rw [hgt,←e] at h4
        have:=(hk.reach i o hoi i h4).1
        omega
      rw [Go.getD_set_ne false hne,hst u hu]
      congr 1
      simp only [eq_iff_iff]
      omega
    ·by_cases hij:i=j
     ·subst hij
      have e1:dB ol i=none:=by unfold dB;rw [hoi];exact hd
      rw [e1] at he;cases he
     ·rw [Go.getD_set_ne false hij] at hlj
      exact hv j hj hlj e he
theorem a2F (hmix:P.follows .mixedOrders=true)(vs:List aF)(ws:List a6)(st:List Nat)(dss rl:List (List Nat))(ps:List (Nat×Nat))(hk:BW n ol st l dss rl ps=true)(hw:wv ws w 0=w0.drew)(ho:mO P n ol vs ws w dss l st ps)(hfin:eo Q .normal n (GI ol vs l) (wv ws w st.length)):cw P Q n (.region id ol.toArray true) l w0:=fun a F=>by
 refine wp_region_any hmix ?_
 have E:(uN ol.toArray.size false).size=ol.length:=by simp
 have f:∀i,(uN ol.toArray.size false).getD i false=false:=by
  intro i
  simp only [Array.getD_eq_getD_getElem?,Array.getElem?_replicate]
  split <;> rfl
 have:=a2w (a2x hk) ho hfin ol.toArray.size _ a 0 (by
  refine a8 List.countP_le_length ?_
  simp) E (fun i o _ h=>by rw [f] at h;cases h) (bX _) (fun u _=>by rw [f];simp) F (fun i _ h=>by rw [f] at h;cases h)
 rw [hw] at this
 exact this
theorem a2b {t:Nat}{o:bE}(acc:Fr)(ho:ol[i]?=some o)(hs:st.contains i=false)(hv:(vs[i]?).getD undef=v)(hw:wv ws w t=wt)(hacc:dfr ol vs l (dL dss i)=acc)(h:jA P n acc o wt (.value v) wt)(h':mO P n ol vs ws w dss l st ps):mO P n ol vs ws w dss l st ((i,t)::ps):=⟨by unfold wE;rw [ho];simp only;rw [hs,if_neg ym,hv,hw,hacc];exact h,h'⟩
theorem fV {t:Nat}{o:bE}(acc:Fr)(ho:ol[i]?=some o)(hs:st.contains i=true)(hd:o.dst=none)(hw:wv ws w t=wt)(hw':wv ws w (t+1)=wt')(hacc:dfr ol vs l (dL dss i)=acc)(h:jA P n acc o wt .skip wt')(h':mO P n ol vs ws w dss l st ps):mO P n ol vs ws w dss l st ((i,t)::ps):=⟨by unfold wE;rw [ho];simp only;rw [hs,if_pos rfl,hw,hw',hacc,hd];exact h,h'⟩
theorem yC {t:Nat}{o:bE}(acc:Fr)(ho:ol[i]?=some o)(hs:st.contains i=true)(hv:(vs[i]?).getD undef=v)(hw:wv ws w t=wt)(hw':wv ws w (t+1)=wt')(hacc:dfr ol vs l (dL dss i)=acc)(h:jA P n acc o wt (.value v) wt')(h':mO P n ol vs ws w dss l st ps)(hd:o.dst≠none:=by decide):mO P n ol vs ws w dss l st ((i,t)::ps):=⟨by unfold wE;rw [ho];simp only;rw [hs,if_pos rfl,hw,hw',hacc,hv];cases hx:o.dst with | none=>exact absurd hx hd | some d=>exact h,h'⟩
theorem gI:mO P n ol vs ws w dss l st []:=trivial
end
section
variable {P:cO}{Q:dX→Act→a6→Prop}{n:Nat}{l:Fr}{w:a6}{ops:Array bE}{rest:List bE}{d:Nat}{op:Op}{ty:aS}{pos:String}{af:Array fL}{gd:Option (Nat×Bool)}
def M1:jU→Bool
 | .eql=>false
 | .neq=>false
 | _=>true
theorem W3 {x y:cR}{u r:aF}(ho:M1 o=true)(hb:(binOp o t u v).run P w= .ok r w):((do eqGuard o t x y u v;binOp o t u v):Sem aF).run P w= .ok r w:=by
 cases o <;> first | (cases ho;done) | (simp only [eqGuard,cV];exact hb) | (simp [eqGuard,cV,hb])
theorem pL {x y:cR}{u r:aF}(hw:dD ops l gd=some true)(hx:cB l x=some u)(hy:cB l y=some v)(ho:M1 o=true)(hb:∀w,(binOp o t u v).run P w= .ok r w)(h:wl P ops Q n rest ((d,r)::l) w)(hn:d<n:=by decide):wl P ops Q n (⟨some d,.binOp o t x y t',ty,pos,af,gd⟩::rest) l w:=
 gO hw hn (fun a' f=>by
  have e:((do eqGuard o t x y (a'.eval x) (a'.eval y);binOp o t (a'.eval x) (a'.eval y)):Sem aF).run P w= .ok r w:=by
   rw [f.ev hx,f.ev hy];exact W3 ho (hb w)
  show ((((do eqGuard o t x y (a'.eval x) (a'.eval y);binOp o t (a'.eval x) (a'.eval y)):Sem aF)>>=fun r=>pure (iE r)):Sem gS).run P w=_
  rw [cV,e];rfl) h
theorem eQ {v':aF}(hw:dD ops l gd=some true)(hk:kL l op=true)(e:v=v')(h:wl P ops Q n rest ((d,v')::l) w)(hn:d<n:=by decide)(hr:(execOp (rho l) ⟨some d,op,ty,pos,af,gd⟩).run P w= .ok (.value v) w:=by kernel_rfl):wl P ops Q n (⟨some d,op,ty,pos,af,gd⟩::rest) l w:=I9 hw hk hn hr (by rw [e];exact h)
end
theorem IO {x:Nat}(hx:x≤18446744073709551615)(P:cO)(t:aS)(w:a6):(binOp .and t (t9 (x:Int)) (t9 1)).run P w= .ok (t9 (x%2:Nat)) w:=by
 have e:=and_one_u64 (x:Int) i9 i9;have f:(binOp .and t (t9 (x:Int)) (t9 1)).run P w= .ok (t9 (bits BinOp.and IntKind.u64 (x:Int) 1)) w:=rfl;rw [f,e,Int.natCast_emod];rfl
theorem G2 {x:Nat}(h:x≤18446744073709551615):eL .u64 (IntKind.u64.wrap (x:Int))= t9 (x:Int):=by rw [IntWalk.u64_in _ ⟨by omega,by omega⟩]
theorem sD {x:Nat}(h:x≤9223372036854775807):eL .i64 (IntKind.i64.wrap (x:Int))= no (x:Int):=by rw [IntWalk.i64_in _ ⟨by omega,by omega⟩]
section
variable {P:cO}{Q:dX→Act→a6→Prop}{n:Nat}{l:Fr}{w:a6}
theorem aP:∀{fr:Fr},(fr.map fun p=>look l p.1)=(fr.map fun p=>some p.2)→Keeps l fr
 | [],_=>trivial
 | (i,v)::r,h=>by
  simp only [jS,List.cons.injEq] at h
  exact⟨h.1,aP h.2⟩
theorem bU {c:Code}{args:List aF}{R:eF→a6→Prop}(hf:P.funcs[f]?=some fn)(n:Nat)(hk:(fn.body,fn.ntmps,Nat.ble args.length n)=(some c,n,true))(h:cw P (bodyPost P fn R) n c (yH args 0) w):aQ P f args.toArray w R:=by
 simp only [Prod.mk.injEq] at hk;exact U4 hf hk.1 hk.2.1 (Nat.le_of_ble_eq_true hk.2.2) h
section
variable {ops:Array bE}{rest:List bE}{d:Nat}{op:Op}{ty:aS}{pos:String}{af:Array fL}{gd:Option (Nat×Bool)}{w0:a6}
theorem aH {x y:cR}{k:j7}{a b:Int}{c:Bool}(hk:(dD ops l gd,cB l x,cB l y,Nat.blt d n)=(some true,some (.int k a),some (.int k b),true))(hc:cQ o a b=some c)(h:wl P ops Q n rest ((d,.bool c)::l) w):wl P ops Q n (⟨some d,.binOp o t x y t',ty,pos,af,gd⟩::rest) l w:=by
 simp only [Prod.mk.injEq] at hk;exact fP hk.1 hk.2.1 hk.2.2.1 c h (hc:=hc) (hn:=(Nat.le_of_ble_eq_true hk.2.2.2))
theorem bD {x y:cR}{k:j7}{a b c:Int}(hk:(dD ops l gd,cB l x,cB l y,Nat.blt d n)=(some true,some (.int k a),some (.int k b),true))(hc:eY o k a b=some c)(h:wl P ops Q n rest ((d,.int k c)::l) w):wl P ops Q n (⟨some d,.binOp o t x y t',ty,pos,af,gd⟩::rest) l w:=by
 simp only [Prod.mk.injEq] at hk;exact eC hk.1 hk.2.1 hk.2.2.1 c hc h (hn:=(Nat.le_of_ble_eq_true hk.2.2.2))
theorem dG {x:cR}(hb:Bk w g T' vs)(hk:(dD ops l gd,cB l x,vs[i]?,Nat.blt d n)=(some true,some (i5 g i),some v,true))(h:wl P ops Q n rest ((d,v)::l) w)(hT:∀w,(isAgg T).run P w= .ok false w:=by intro _;kernel_rfl):wl P ops Q n (⟨some d,.load T x,ty,pos,af,gd⟩::rest) l w:=by
 simp only [Prod.mk.injEq] at hk;exact D5 hk.1 hk.2.1 (cE hT hb hk.2.2.1) (Nat.le_of_ble_eq_true hk.2.2.2) h
theorem bG {x:cR}{p:a7}(hl:(loadVar t p).run P w= .ok v w)(hk:(dD ops l gd,cB l x,Nat.blt d n)=(some true,some (.pointer (some p)),true))(h:wl P ops Q n rest ((d,v)::l) w):wl P ops Q n (⟨some d,.load t x,ty,pos,af,gd⟩::rest) l w:=by
 simp only [Prod.mk.injEq] at hk;exact D5 hk.1 hk.2.1 hl (Nat.le_of_ble_eq_true hk.2.2) h
theorem mL (x:Nat)(hk:(dD ops l gd,kL l op,Nat.blt d n)=(some true,true,true))(h:wl P ops Q n rest ((d,t9 (x:Int))::l) w)(hx:x≤18446744073709551615:=by first | omega | assumption)(hr:(execOp (rho l) ⟨some d,op,ty,pos,af,gd⟩).run P w= .ok (.value (t9 (IntKind.u64.wrap (x:Int)))) w:=by kernel_rfl):wl P ops Q n (⟨some d,op,ty,pos,af,gd⟩::rest) l w:=by
 simp only [Prod.mk.injEq] at hk;exact eQ hk.1 hk.2.1 (G2 hx) h (hn:=(Nat.le_of_ble_eq_true hk.2.2)) (hr:=hr)
theorem cA {x y:cR}{s:Nat}{k:j7}(hT:P.underlying t=some (.slice e))(hs:∀w,(sizeOf e).run P w= .ok s w)(j:Nat)(p:a7)(hp:A.map (·.add (j*s))=some p)(hk:(dD ops l gd,cB l x,cB l y,Nat.blt d n)=(some true,some (up A m c),some (.int k (j:Int)),true))(h:wl P ops Q n rest ((d,.pointer (some p))::l) w)(hj:j<m:=by omega):wl P ops Q n (⟨some d,.indexAddr t x y,ty,pos,af,gd⟩::rest) l w:=by
 simp only [Prod.mk.injEq] at hk;exact D7 hk.1 hk.2.1 hk.2.2.1 hT hs j J hj p hp (Nat.le_of_ble_eq_true hk.2.2.2) h
theorem g9 {x y:cR}(hb:Bk w g T' vs)(us':List aF)(hk:(dD ops l gd,cB l x,cB l y,v.cells,Nat.blt off vs.length&&v.oneCell',vs.set off v)=(some true,some (i5 g off),some v,#[v],true,us'))(h:∀w',Bk w' g T' us'→Upd g w w'→w'.heap.size=w.heap.size→wl P ops Q n rest l w')(hT:∀w,(sizeOf T).run P w= .ok 1 w:=by intro _;kernel_rfl):wl P ops Q n (⟨none,.store T x y,ty,pos,af,gd⟩::rest) l w:=by
 simp only [Prod.mk.injEq,fB] at hk;exact i0 hk.1 hk.2.1 hk.2.2.1 hT hk.2.2.2.1 hb (Nat.le_of_ble_eq_true hk.2.2.2.2.1.1) hk.2.2.2.2.1.2 us' hk.2.2.2.2.2 h
theorem aX {xs:Array cR}{R:aF→a6→Prop}(h0:Ext w0 w)(hc:aQ P f vs.toArray w (Gv w R))(hk:(dD ops l gd==some true&&kL l (.call {callee:= .value (.func f),args:=xs,argTypes:=ts})&&Nat.blt d n)=true)(h:∀v w',R v w'→Ext w w'→Ext w0 w'→wl P ops Q n rest ((d,v)::l) w')(hr:(execOp (rho l) ⟨some d,.call {callee:= .value (.func f),args:=xs,argTypes:=ts},ty,pos,af,gd⟩).run P w= .ok (.enter f vs.toArray) w:=by kernel_rfl):wl P ops Q n (⟨some d,.call {callee:= .value (.func f),args:=xs,argTypes:=ts},ty,pos,af,gd⟩::rest) l w:=cl h0 hc hk hr h
theorem bI {xs:Array cR}(vs:List aF){R:aF→a6→Prop}(h0:Ext w0 w)(hc:aQ P f vs.toArray w (Gv w R))(hk:(dD ops l gd==some true&&kL l (.call {callee:= .value (.func f),args:=xs,argTypes:=ts})&&Nat.blt d n)=true)(h:∀v w',R v w'→Ext w w'→Ext w0 w'→wl P ops Q n rest ((d,v)::l) w')(hr:(execOp (rho l) ⟨some d,.call {callee:= .value (.func f),args:=xs,argTypes:=ts},ty,pos,af,gd⟩).run P w= .ok (.enter f vs.toArray) w:=by kernel_rfl):wl P ops Q n (⟨some d,.call {callee:= .value (.func f),args:=xs,argTypes:=ts},ty,pos,af,gd⟩::rest) l w:=cl h0 hc hk hr h
theorem dP {xs:Array cR}(vs:List aF){R:eF→a6→Prop}(hc:aQ P f vs.toArray w R)(hk:(dD ops l gd==some true&&kL l (.call {callee:= .value (.func f),args:=xs,argTypes:=ts})&&Nat.blt d n)=true)(h:∀e w',R e w'→GS (fun v=>wl P ops Q n rest ((d,v)::l) w') e)(hr:(execOp (rho l) ⟨some d,.call {callee:= .value (.func f),args:=xs,argTypes:=ts},ty,pos,af,gd⟩).run P w= .ok (.enter f vs.toArray) w:=by kernel_rfl):wl P ops Q n (⟨some d,.call {callee:= .value (.func f),args:=xs,argTypes:=ts},ty,pos,af,gd⟩::rest) l w:=by
 rw [fB,fB,beq_iff_eq] at hk;exact IC hk.1.1 hk.1.2 hr (Nat.le_of_ble_eq_true hk.2) hc h
theorem aA (v:aF)(hk:(dD ops l gd==some true&&kL l op&&Nat.blt d n)=true)(h:wl P ops Q n rest ((d,v)::l) w)(hr:(execOp (rho l) ⟨some d,op,ty,pos,af,gd⟩).run P w= .ok (.value v) w:=by kernel_rfl):wl P ops Q n (⟨some d,op,ty,pos,af,gd⟩::rest) l w:=pu hk hr h
theorem bS (k:Nat)(h:nY n ops k rest l=some (l',[]))(hw:eo Q .normal n l' w):wl P ops Q n rest l w:=mv k h (cF hw)
theorem aE (k:Nat){y:Code}(h:nY n ops k rest l=some (l',[]))(hw:cw P Q n y l' w):wl P ops (Exit.then (fun a w=>y.wp P Q a w) Q) n rest l w:=mv k h (aG hw)
theorem aV (k:Nat){y:Code}(h:nY n ol.toArray k ol l=some (l',rest'))(hw:wl P ol.toArray (Exit.then (fun a w=>y.wp P Q a w) Q) n rest' l' w):cw P Q n (.seq (.region id ol.toArray false) y) l w:=sr (mv k h hw)
theorem aK (k:Nat)(h:nY n ol.toArray k ol l=some (l',rest'))(hw:wl P ol.toArray Q n rest' l' w):cw P Q n (.region id ol.toArray false) l w:=bH (mv k h hw)
theorem nI (vs:List aF)(h0:Ext w0 w)(hk:(dD ops l gd==some true&&Nat.blt d n)=true)(h:∀g w',Bk w' g t vs→w0.heap.size≤g→Ext w w'→Ext w0 w'→wl P ops Q n rest ((d,i5 g 0)::l) w')(hz:∀w,(zeroValue t).run P w= .ok (.agg vs.toArray) w:=by intro _;kernel_rfl):wl P ops Q n (⟨some d,.alloc t,ty,pos,af,gd⟩::rest) l w:=al vs h0 hz hk h
theorem bV (vs:List aF)(h0:Ext w0 w)(hq:gp<w.heap.size)(hk:(dD ops l gd==some true&&Nat.blt d n)=true)(h:∀g w',Bk w' g t vs→w0.heap.size≤g→gp<g→Ext w w'→Ext w0 w'→wl P ops Q n rest ((d,i5 g 0)::l) w')(hz:∀w,(zeroValue t).run P w= .ok (.agg vs.toArray) w:=by intro _;kernel_rfl):wl P ops Q n (⟨some d,.alloc t,ty,pos,af,gd⟩::rest) l w:=alq vs h0 hq hz hk h
theorem aI (hv:look l d=some v):wl P ops (lI w1 (some d) (Is v)) n [] l w1:=bQ hv bN rfl
end
section
variable {ol:List bE}{fl al:List Nat}{Rs:List (aF→a6→Prop)}{w0 w1:a6}
theorem cG {o:bE}{R:aF→a6→Prop}(hk:(ol[k]?,fl.contains k,Rs[k]?,al.contains k)=(some o,false,some R,false))(h:∀w1,Ext w w1→Deps ol Rs w w1 (fun acc=>wl P ol.toArray (lI w1 o.dst R) n [o] acc w1) ds l)(h':lR P n ol fl al Rs l w dss (k+1)):lR P n ol fl al Rs l w (ds::dss) k:=by
 simp only [Prod.mk.injEq] at hk;exact oU hk.1 hk.2.1 (iG hk.2.2.1 hk.2.2.2 h) h'
theorem bY {ds1 ds2 ds3 ds4:List Nat}{o1 o2 o3 o4:bE}{R1 R2 R3 R4:aF→a6→Prop}(hk:((ol[k]?,fl.contains k,Rs[k]?,al.contains k),(ol[k+1]?,fl.contains (k+1),Rs[k+1]?,al.contains (k+1)),(ol[k+2]?,fl.contains (k+2),Rs[k+2]?,al.contains (k+2)),(ol[k+3]?,fl.contains (k+3),Rs[k+3]?,al.contains (k+3)))=((some o1,false,some R1,false),(some o2,false,some R2,false),(some o3,false,some R3,false),(some o4,false,some R4,false)))(h1:∀w1,Ext w w1→Deps ol Rs w w1 (fun acc=>wl P ol.toArray (lI w1 o1.dst R1) n [o1] acc w1) ds1 l)(h2:∀w1,Ext w w1→Deps ol Rs w w1 (fun acc=>wl P ol.toArray (lI w1 o2.dst R2) n [o2] acc w1) ds2 l)(h3:∀w1,Ext w w1→Deps ol Rs w w1 (fun acc=>wl P ol.toArray (lI w1 o3.dst R3) n [o3] acc w1) ds3 l)(h4:∀w1,Ext w w1→Deps ol Rs w w1 (fun acc=>wl P ol.toArray (lI w1 o4.dst R4) n [o4] acc w1) ds4 l)(h':lR P n ol fl al Rs l w dss (k+1+1+1+1)):lR P n ol fl al Rs l w (ds1::ds2::ds3::ds4::dss) k:=by
 obtain⟨o,f⟩:=Prod.mk.inj hk;obtain⟨f,h⟩:=Prod.mk.inj f;obtain⟨h,E⟩:=Prod.mk.inj h;exact cG o h1 (cG f h2 (cG h h3 (cG E h4 h')))
theorem aO {k:Fr→Prop}(hk:(Rs[j]?,dB ol j)=(some (Is v),some d))(h:Deps ol Rs w0 w1 k ds ((d,v)::acc)):Deps ol Rs w0 w1 k (j::ds) acc:=by
 exact dk (Prod.mk.inj hk).1 (Prod.mk.inj hk).2 h
theorem aY {k:Fr→Prop}{d1 d2:Nat}(hk:((Rs[j1]?,dB ol j1),Rs[j2]?,dB ol j2)=((some (Is v1),some d1),some (Is v2),some d2))(h:Deps ol Rs w0 w1 k ds ((d2,v2)::(d1,v1)::acc)):Deps ol Rs w0 w1 k (j1::j2::ds) acc:=by
 exact aO (Prod.mk.inj hk).1 (aO (Prod.mk.inj hk).2 h)
theorem d6 {k:Fr→Prop}{j3 j4:Nat}{v3 v4:aF}{d1 d2 d3 d4:Nat}(hk:(((Rs[j1]?,dB ol j1),Rs[j2]?,dB ol j2),(Rs[j3]?,dB ol j3),Rs[j4]?,dB ol j4)=(((some (Is v1),some d1),some (Is v2),some d2),(some (Is v3),some d3),some (Is v4),some d4))(h:Deps ol Rs w0 w1 k ds ((d4,v4)::(d3,v3)::(d2,v2)::(d1,v1)::acc)):Deps ol Rs w0 w1 k (j1::j2::j3::j4::ds) acc:=by
 exact aY (Prod.mk.inj hk).1 (aY (Prod.mk.inj hk).2 h)
theorem aW {k:Fr→Prop}{R:aF→a6→Prop}(hk:(Rs[j]?,dB ol j)=(some R,some d))(h:∀v wj,R v wj→Ext w0 wj→Ext wj w1→Deps ol Rs w0 w1 k ds ((d,v)::acc)):Deps ol Rs w0 w1 k (j::ds) acc:=by
 exact PF (Prod.mk.inj hk).1 (Prod.mk.inj hk).2 h
def AN (ol:List bE):List (List Nat):=ol.foldl (fun acc o=>acc++ [o.after.toList.foldl (fun r e=>bif kN .any e then (e.on::(acc[e.on]?).getD []).foldl (fun r j=>bif r.contains j then r else j::r) r else r) []]) []
theorem dW (hmix:P.follows .mixedOrders=true)(m:Nat)(fl:List Nat)(Rs:List (aF→a6→Prop))(dss:List (List Nat))(hk:vV n ol m fl l dss (AN ol)=true)(ho:lR P n ol fl [] Rs l w dss 0)(hfin:∀w1,Ext w w1→Deps ol Rs w w1 (fun acc=>wl P ol.toArray (NP Q) n (ol.drop m) acc w1) (eI m) l):cw P Q n (.region id ol.toArray true) l w:=a2E hmix m fl Rs dss (AN ol) hk ho hfin
end
section
variable {ol:List bE}{vs:List aF}{ws:List a6}{dss rl:List (List Nat)}{st:List Nat}{ps:List (Nat×Nat)}
theorem gJ (hmix:P.follows .mixedOrders=true)(w:a6)(vs:List aF)(ws:List a6)(st:List Nat)(dss:List (List Nat))(ps:List (Nat×Nat))(hk:BW n ol st l dss (AN ol) ps=true)(hw:wv ws w 0=w0.drew)(ho:mO P n ol vs ws w dss l st ps)(hfin:eo Q .normal n (GI ol vs l) (wv ws w st.length)):cw P Q n (.region id ol.toArray true) l w0:=a2F hmix vs ws st dss (AN ol) ps hk hw ho hfin
theorem aR {t:Nat}{o:bE}(hk:(ol[i]?,st.contains i,(vs[i]?).getD undef,wv ws w t)=(some o,false,v,wt))(h:jA P n (dfr ol vs l (dL dss i)) o wt (.value v) wt)(h':mO P n ol vs ws w dss l st ps):mO P n ol vs ws w dss l st ((i,t)::ps):=by
 simp only [Prod.mk.injEq] at hk;exact a2b _ hk.1 hk.2.1 hk.2.2.1 hk.2.2.2 J h h'
end
end
theorem gH (w:a6):∃v,v=w.drew∧Ext w v:=⟨_,rfl,(Ext.refl _).drew⟩
theorem gP (us:List aF)(off:Nat)(hT:AggT P T k)(hb:Bk w g T' vs)(us':List aF)(hk:(q8 us.length k&&Nat.ble (off+k) vs.length&&us.all (·.oneCell'),jP vs off us)=(true,us')):∃w',(storeVar T ⟨g,off,none⟩ (.agg us.toArray)).run P w= .ok () w'∧Bk w' g T' us'∧Upd g w w'∧w'.heap.size=w.heap.size:=by
 obtain⟨h1,h2⟩:=Prod.mk.inj hk;rw [fB,fB] at h1;exact AF hT (sQ h1.1.1) hb (Nat.le_of_ble_eq_true h1.1.2) h1.2 us' h2
theorem bP (h:Zi w s A n c x)(l:n≤N):ln x≤N:=a8 h.ln l
section
variable {A B:Int}
theorem dV (a b:Nat)(hk:(A,B)=((a:Int),(b:Int)))(h:a<b:=by omega):cQ .lss A B=some true:=by cases hk;exact a3a J J h
theorem dQ (a b:Nat)(hk:(A,B)=((a:Int),(b:Int)))(h:b≤a:=by omega):cQ .lss A B=some false:=by cases hk;exact a3b J J h
theorem pS (a b:Nat)(hk:(A,B)=((a:Int),(b:Int)))(h:a≤b:=by omega):cQ .leq A B=some true:=by cases hk;exact a3c J J h
theorem pT (a b:Nat)(hk:(A,B)=((a:Int),(b:Int)))(h:b<a:=by omega):cQ .leq A B=some false:=by cases hk;exact a3d J J h
theorem gB (a b:Nat)(hk:(A,B)=((a:Int),(b:Int)))(h:b<a:=by omega):cQ .gtr A B=some true:=by cases hk;exact a3e J J h
theorem i7 (a b:Nat)(hk:(A,B)=((a:Int),(b:Int)))(h:a≤b:=by omega):cQ .gtr A B=some false:=by cases hk;exact a3f J J h
theorem i8 (a b:Nat)(hk:(A,B)=((a:Int),(b:Int)))(h:b≤a:=by omega):cQ .geq A B=some true:=by cases hk;exact a3g J J h
theorem nE (a b:Nat)(hk:(A,B)=((a:Int),(b:Int)))(h:a<b:=by omega):cQ .geq A B=some false:=by cases hk;exact a3h J J h
theorem gZ (a b:Nat)(hk:(A,B)=((a:Int),(b:Int)))(h:a=b:=by omega):cQ .eql A B=some true:=by cases hk;exact a3i J J h
theorem hJ (a b:Nat)(hk:(A,B)=((a:Int),(b:Int)))(h:a≠b:=by omega):cQ .eql A B=some false:=by cases hk;exact a3j J J h
theorem vD (a b:Nat)(hk:(A,B)=((a:Int),(b:Int)))(h:a≠b:=by omega):cQ .neq A B=some true:=by cases hk;exact a28 J J h
theorem lW (a b:Nat)(hk:(A,B)=((a:Int),(b:Int)))(h:a=b:=by omega):cQ .neq A B=some false:=by cases hk;exact a29 J J h
theorem jC (a b:Nat)(hk:(A,B)=((a:Int),(b:Int)))(h:a+b≤18446744073709551615:=by omega):eY .add .u64 A B=some ((a+b:Nat):Int):=by cases hk;exact a3F J J h
theorem zL (a b:Nat)(hk:(A,B)=((a:Int),(b:Int)))(h:b≤a:=by omega)(h2:a≤18446744073709551615:=by omega):eY .sub .u64 A B=some ((a-b:Nat):Int):=by cases hk;exact a3A J J h h2
theorem lV (a b:Nat)(hk:(A,B)=((a:Int),(b:Int)))(h:a*b≤18446744073709551615:=by omega):eY .mul .u64 A B=some ((a*b:Nat):Int):=by cases hk;exact a3E J J h
theorem kU (a b:Nat)(hk:(A,B)=((a:Int),(b:Int)))(h:b≠0:=by omega)(h2:a≤18446744073709551615:=by omega):eY .quo .u64 A B=some ((a/b:Nat):Int):=by cases hk;exact a3C J J h h2
theorem kT {k:j7}(a b:Nat)(hk:(A,B)=((a:Int),(b:Int)))(h:b≠0:=by omega):eY .rem k A B=some ((a%b:Nat):Int):=by cases hk;exact a3B J J h
theorem cK (a b:Nat)(hk:(A,B)=((a:Int),(b:Int)))(h:a+b≤9223372036854775807:=by omega):eY .add .i64 A B=some ((a+b:Nat):Int):=by cases hk;exact a3P J J h
theorem iU (a b:Nat)(hk:(A,B)=((a:Int),(b:Int)))(h:b≤a:=by omega)(h2:a≤9223372036854775807:=by omega):eY .sub .i64 A B=some ((a-b:Nat):Int):=by cases hk;exact a3L J J h h2
theorem qP (a b:Nat)(hk:(A,B)=((a:Int),(b:Int)))(h:a*b≤9223372036854775807:=by omega):eY .mul .i64 A B=some ((a*b:Nat):Int):=by cases hk;exact a3N J J h
theorem nD (a b:Nat)(hk:(A,B)=((a:Int),(b:Int)))(h:b≠0:=by omega)(h2:a≤9223372036854775807:=by omega):eY .quo .i64 A B=some ((a/b:Nat):Int):=by cases hk;exact a3M J J h h2
end
end
section
open Go.ChangeShapes Go.WideShapes Go.ChangeAt Go.RowKit
theorem YF:ownKnob Tryz.prog.godebug=none:=by kernel_rfl
theorem G6:Tryz.prog.cellsOf 43=1:=by kernel_rfl
theorem a3n (d:DataW H):1≤Rows.uptoBulk d:=by
 cases d with
 | lit l=>cases l <;> simp [Rows.uptoBulk]
 | nil=>simp [Rows.uptoBulk]
 | ptr d=>simp [Rows.uptoBulk]
 | slice elems spare=>simp [Rows.uptoBulk]
 | agg parts=>simp [Rows.uptoBulk]
 | iface t d=>simp [Rows.uptoBulk]
 | map entries=>simp [Rows.uptoBulk]
 | held h=>simp [Rows.uptoBulk]
theorem Q6 (l:List (DataW H)):l.length≤Rows.uptoBulkAll l:=by
 induction l with
 | nil=>simp [Rows.uptoBulkAll]
 | cons x r ih=>have:=a3n x;simp only [Rows.uptoBulkAll,fO];omega
theorem a3m (elems spare:List (DataW H)):elems.length+spare.length≤Rows.uptoBulk (.slice elems spare):=by
 have h1:=Q6 elems;have h2:=Q6 spare;simp only [Rows.uptoBulk];omega
theorem a3o {l:List (DataW H)}(hk:Rows.uptoSmall H l=true):Rows.uptoBulkAll l≤1048576:=of_decide_eq_true hk
theorem IE {n:Int}(h:(Lit.int .u64 n).wf=true):0≤n∧n≤18446744073709551615:=by
 simpa [Lit.wf,IntKind.min,IntKind.max,wS,wT] using h
theorem Y9 {enc:aS×aF→H}{f:Func}{s:ChangeSpec}{apart fresh handsOn again:Bool}{ds gs:List (DataW H)}{before:List MemPlace}(hW:DataW.Whole enc P f.params.toList s.vars apart W args.toList ds gs before)(hres:∀(b:Nat) (sp:Nat→Bool) (hd:Bool),DataW.TrodAll enc P W' b sp hd f.resultTypes.toList (v.resultList f.resultTypes.size) (s.fn H (ds++gs)).results [])(hargs:∀sp:Nat→Bool,(∀p∈before,sp p.block=true)→DataW.TrodAll enc P W' 0 sp true f.params.toList args.toList (s.fn H (ds++gs)).args pa)(hvars:∀sp:Nat→Bool,(∀p∈before,sp p.block=true)→DataW.TrodVars enc P W' sp s.vars (s.fn H (ds++gs)).vars pv)(hps:before=pa++pv)(hb:Below W.heap.size W W')(hok:∀(j:Nat) (t:aS) (r:aF),f.resultTypes[j]?=some t→(v.resultList f.resultTypes.size)[j]?=some r→Value.okWide P W' .any 0 t r):s.post enc P f apart fresh handsOn again W args v W':=by
 have F:∀p∈before,p.block<W.heap.size:=fun p h=>hW.lt p h;have o:∀p∈before,(fun b=>decide (b<W.heap.size)) p.block=true:=fun p h=>by simpa using F p h
 refine⟨ds,gs,before,[],pa,pv,hW,hres _ _ _,hargs _ o,hvars _ o,World.keptBut_mono (fun p h=>⟨h,?_⟩) (hb.frame (· ∈before)),fun _=>?_⟩
 ·rw [hps,List.mem_append] at h;exact cN h
 obtain⟨_,_,_,_,_,G,hn⟩:=hW;refine⟨hok,_,_,([]++pa)++pv,⟨[]++pa,pv,trodAll_append (hargs _ (fun _ _=>rfl)) (hres _ _ _),hvars _ (fun _ _=>rfl),rfl,?_,?_⟩,?_⟩
 ·intro b off h;have E:MemPlace.cell b off∈before:=by rw [hps];simpa using h
  rw [hb.frozen (F _ E)];exact G b off E
 ·intro I;have:=hn I;rw [hps] at this;simpa using this
 intro p h _;rw [hps];simpa using h
theorem a0q:laidOutB aM=true:=by kernel_rfl
theorem ZH:mapsRowed aM=true:=by kernel_rfl
def UQ (P:cO):Bool:=(eI P.types.size).all fun t=>match P.underlying t with
 | some (.slice e)=>decide (0<P.cellsOf e)
 | _=>true
theorem UP:UQ aM=true:=by kernel_rfl
theorem UR (ht:t<Tryz.prog.types.size)(hu:Tryz.prog.underlying t=some (.slice e)):0<Tryz.prog.cellsOf e:=by
 have:=gK.1 UP t (j5.2 ht);simpa [hu] using this
theorem DL {enc:aS×aF→H}{d:DataW H}(ht:t<Tryz.prog.types.size)(h:DataW.Trod enc aM W 0 (fun _=>true) true t v d p)(he:Ext W W')(hp:∀q∈p,q.block<W.heap.size){sp:Nat→Bool}(hsp:∀q∈p,sp q.block=true):DataW.Trod enc aM W' 0 sp true t v d p:=by
 obtain⟨n,hn⟩:=h;exact⟨n,DataW.trod_stays (kids_rows a0q ZH) UR (fun h=>by cases h) ht hn (fun q f=>he.below.same (hp q f)) hsp⟩
theorem UE {enc:aS×aF→H}(he:Ext W W'){sp:Nat→Bool}:∀{ts:List aS}{vs:List aF}{ds:List (DataW H)}{p:List MemPlace},(∀t∈ts,t<Tryz.prog.types.size)→
  DataW.TrodAll enc aM W 0 (fun _=>true) true ts vs ds p→(∀q∈p,q.block<W.heap.size)→(∀q∈p,sp q.block=true)→DataW.TrodAll enc aM W' 0 sp true ts vs ds p:=by
 intro ts
 induction ts with
 | nil=>
  intro vs ds p _ h _ _
  obtain⟨rfl,rfl,rfl⟩:=trodAll_nil h
  exact trodAll_mk0
 | cons t ts ih=>
  intro vs ds p ht h hp hsp
  obtain⟨v,vs',d,ds',p1,p2,rfl,rfl,rfl,h1,h2⟩:=trodAll_cons h
  exact trodAll_cons_mk (DL (ht t ym) h1 he (fun q hq=>hp q (by simp [hq])) (fun q hq=>hsp q (by simp [hq]))) (ih (fun t h=>ht t (by simp [h])) h2 (fun q hq=>hp q (by simp [hq])) (fun q hq=>hsp q (by simp [hq])))
end
section
open Go.RowKit
structure Zl (w:a6)(A:Option a7)(n cap:Nat)(zs:List Int)(ms:List Nat):Prop where
 len:zs.length=n
 mlen:ms.length=n
 le:n≤cap
 max:cap≤maxLen
 get:∀i,i<n→∃a s B c,A=some a∧w.cell? (a.add (i*2))=some (.bool s)∧w.cell? (a.add (i*2+1))=some (up B (ms.getD i 0) c)∧Zi w s B (ms.getD i 0) c (zs.getD i 0)
theorem Zl.ext (h:Zl w A n cap zs ms)(e:Ext w w'):Zl w' A n cap zs ms:=
 ⟨h.len,h.mlen,h.le,h.max,fun i hi=>by
  obtain⟨a,s,B,c,h1,h2,o,f⟩:=h.get i hi
  exact⟨a,s,B,c,h1,e.cell h2,e.cell o,f.ext e⟩⟩
theorem FE:∀(ms:List Nat) (i:Nat),ms.getD i 0≤ms.sum
 | [],i=>by simp
 | m::r,0=>by simp
 | m::r,i+1=>by
  have:=FE r i
  simp only [List.getD_cons_succ,List.sum_cons]
  omega
def p8 (zs:List Int):Prop:=zs≠ []∧∀i,1≤i→i<zs.length→0<zs.getD i 0
end
section
open Go.ChangeShapes Go.WideShapes Go.ChangeAt Go.RowKit
theorem yG:Tryz.prog.cellsOf 24=2:=by kernel_rfl
theorem PZ:Tryz.prog.cellsOf 22=1:=by kernel_rfl
theorem Q3:Tryz.prog.cellsOf 4=1:=by kernel_rfl
theorem a1R:∃f0 f1:Field,Tryz.prog.underlying 24=some (.struct #[f0,f1])∧f0.type=4∧f0.offset=0∧f1.type=22∧f1.offset=1:=⟨_,_,Tryz.underlying24,rfl,rfl,rfl,rfl⟩
theorem YL {enc:aS×aF→H}{d:DataW H}(hf:DataW.trod enc aM W 0 (fun _=>true) true fuel 22 [v]=some (d,p)):∃A n cap xs,v= up A n cap∧Rd W A n cap xs∧n≤Rows.uptoBulk d∧
   ∀W',Ext W W'→∀sp:Nat→Bool,(∀q∈p,sp q.block=true)→∃fuel',DataW.trod enc aM W' 0 sp true fuel' 22 [v]=some (d,p):=by
 rcases open_ints Tryz.underlying22 Tryz.underlying43 G6 hf with⟨E,hx⟩ | ⟨a,n',cap',zs,E,_,hl,hm,hz,hx,f,o⟩
 ·obtain rfl:=List.singleton_inj.1 E;simp only [Prod.mk.injEq] at hx;obtain⟨rfl,rfl⟩:=hx;exact⟨none,0,0,[],rfl,Rd.nil W,bX _,fun W' _ sp _=>by obtain⟨fu,h⟩:=shut_slice_nil (enc:=enc) (w:=W') (base:=0) (spare:=sp) (held:=true) Tryz.underlying22;exact⟨fu,h⟩⟩
 obtain rfl:=List.singleton_inj.1 E;simp only [Prod.mk.injEq] at hx;obtain⟨rfl,rfl⟩:=hx;simp only [if_true] at hz;have I:0<cap'→a.block<W.heap.size:=fun hc=>wI W (a.add 0) (f 0 i9) |> fun h=>by rwa [vY] at h
 have Z:∀z∈zs,((z.toNat:Nat):Int)=z:=fun z hz'=>Int.toNat_of_nonneg (IE (o z hz')).1;have ab:(zs.take n').length=n':=by rw [eB];omega
 refine⟨some a,n',cap',(zs.take n').map Int.toNat,rfl,⟨⟨by simp;omega,hl,hm,fun i hi=>⟨a,rfl,?_⟩,fun b hb hc=>by cases hb;exact I hc⟩,?_⟩,?_,?_⟩
 ·rw [f i i9];have F:i<zs.length:=by omega
  have L:zs[i]∈zs:=oG F
  have e:(((zs.take n').map Int.toNat).map bF).getD i undef= t9 (zs[i].toNat:Nat):=by
   simp [bL,jM,show i<n' by omega,cT F]
  rw [e,Z _ L];simp [bL,cT F]
 ·intro x hx;obtain⟨z,aa,rfl⟩:=m4.1 hx;have:=IE (o z (List.mem_of_mem_take aa));rw [dJ];omega
 ·have:=a3m (H:=H) (lits .u64 (zs.take n')) (lits .u64 (zs.drop n'));have e:(lits (H:=H) .u64 (zs.take n')).length=n':=by simp [lits];omega
  omega
 intro W' he sp U;have hcell':∀i,i<zs.length→W'.cell? (a.add i)=some (t9 (zs.getD i 0)):=fun i hi=>he.cell (f i hi);by_cases Y:zs.length=0
 ·have X:cap'=0:=by omega
  have M:n'=0:=by omega
  subst X;subst M;have V:=shut_ints (enc:=enc) (w:=W') (base:=0) (spare:=sp) (held:=true) (a:=a) (len:=0) (cap:=0) (zs:=zs) 0 Tryz.underlying22 Tryz.underlying43 G6 (bX _) (aU _) hm (by simp [Y]) hcell' o;exact⟨2,V⟩
 have G:sp a.block=true:=U (.cell a.block a.off) (MemPlace.mem_row.2 ⟨0,by omega,by simp⟩);have V:=shut_ints (enc:=enc) (w:=W') (base:=0) (spare:=sp) (held:=true) (a:=a) (len:=n') (cap:=cap') (zs:=zs) 0 Tryz.underlying22 Tryz.underlying43 G6 (bX _) hl hm (by simp [G,hz]) hcell' o;exact⟨2,V⟩
theorem xK {enc:aS×aF→H}{c0 c1:aF}{x:DataW H×List MemPlace}(h:DataW.trod enc aM W 0 (fun _=>true) true fuel 24 [c0,c1]=some x):∃s A n cap z,c0= .bool s∧c1= up A n cap∧Zi W s A n cap z∧n+1≤Rows.uptoBulk x.1∧
   ∀W',Ext W W'→∀sp:Nat→Bool,(∀q∈x.2,sp q.block=true)→∃fuel',DataW.trod enc aM W' 0 sp true fuel' 24 [c0,c1]=some x:=by
 obtain⟨_,f1,M,G,E,t1,I⟩:=a1R;obtain⟨y0,y1,n,rfl,hl,h0,h1⟩:=trod_struct2 M h;rw [G,E,Q3] at h0;rw [t1,I,PZ] at h1;have F:(([c0,c1]:List aF).drop 0).take 1= [c0]:=rfl;have L:(([c0,c1]:List aF).drop 1).take 1= [c1]:=rfl;rw [F] at h0;rw [L] at h1;obtain⟨s,hs,rfl⟩:=DataW.trod_bool Tryz.underlying4 h0;obtain rfl:c0= .bool s:=by simpa using hs
 obtain⟨A,k,cap,xs,rfl,hx,hb,rx⟩:=YL (d:=y1.1) (p:=y1.2) h1;refine⟨s,A,k,cap,_,rfl,rfl,⟨xs,hx,rfl⟩,?_,?_⟩
 ·simp only [Rows.uptoBulk,Rows.uptoBulkAll];omega
 intro W' he sp o;obtain⟨fu,f⟩:=rx W' he sp (fun q U=>o q (by simp [U]));refine⟨fu+1+1,trod_struct2_mk (y0:=(.lit (.bool s),[])) (y1:=y1) M hl ?_ ?_⟩
 ·rw [G,E,Q3,F];simp [DataW.trod,Tryz.underlying4]
 rw [t1,I,PZ,L];exact DataW.trod_le (Nat.le_succ _) f
theorem Q0:Tryz.prog.cellsOf 26=4:=by kernel_rfl
theorem a1S:∃f0 f1:Field,Tryz.prog.underlying 26=some (.struct #[f0,f1])∧f0.type=24∧f0.offset=0∧f1.type=24∧f1.offset=2:=⟨_,_,Tryz.underlying26,rfl,rfl,rfl,rfl⟩
theorem U5 (D:Nat→DataW H)(f:Nat→Nat)(n:Nat)(h:∀i,i<n→f i+1≤Rows.uptoBulk (D i)):((eI n).map f).sum+n≤Rows.uptoBulkAll ((eI n).map D):=by
 induction n with
 | zero=>simp [Rows.uptoBulkAll]
 | succ n ih=>
  have ih':=ih (fun i hi=>h i i9)
  have hn:=h n i9
  rw [List.range_succ,List.map_append,List.map_append,List.sum_append,List.map_singleton,List.map_singleton]
  have e:∀(l:List (DataW H)) (x:DataW H),Rows.uptoBulkAll (l++ [x])=Rows.uptoBulkAll l+Rows.uptoBulk x:=by
   intro l x
   induction l with
   | nil=>simp [Rows.uptoBulkAll]
   | cons y r ihl=>simp only [wR,Rows.uptoBulkAll,ihl];omega
  rw [e]
  simp only [List.sum_singleton]
  omega
theorem a13 {l:List aF}(h:l.length=2):∃a b,l= [a,b]:=by
 match l,h with
 | [a,b],_=>exact⟨a,b,rfl⟩
end
section
open Go.RowKit
theorem UpdO.of (h:w.grownBy w' none):UpdO A w w':=⟨⟨h.os,h.tape,h.output,h.size,fun k f _=>h.block k f ym⟩⟩
theorem Upd.updO (h:Upd g w w'){o:Nat}{x:_}:UpdO (some ⟨g,o,x⟩) w w':=⟨h.by_⟩
theorem LP {cs:List aF}(hv:cs.take k=vs)(hk:k≤cs.length):(jP cs k us).take (k+us.length)=vs++us:=by
 unfold jP;have e:(cs.take k++us).length=k+us.length:=by rw [f8,eB,iJ hk]
 rw [←e,List.take_left',hv];rfl
def Kept (w:a6)(A A':Option a7):Prop:=∀a',A'=some a'→(∃a,A=some a∧a'.block=a.block)∨w.heap.size≤a'.block
section
variable {P:cO}
theorem AH {z:aF}{s:Nat}(ht:P.underlying t=some (.slice e))(hinfo:(P.info? e).map (fun i=>(i.zero,i.size,i.bytes))=some (some z,s,bytes))(hzs:z.cells.size=s)(hsz:0<s)(hby:bytes≤64){xs:List aF}(hown:Own w base e s A n cap xs)(hb:base≤w.heap.size){a:a7}(hl:news.length=m*s)(hnews:∀j u,news[j]?=some u→w.cell? (a.add j)=some u)(h1:news.all (·.oneCell')=true)(hm:n+m≤1099511627776):∃A' cap' w',(pG #[t,t] ty #[up A n cap,up (some a) m c]).run P w= .ok (up A' (n+m) cap') w'∧Own w' base e s A' (n+m) cap' (xs++news)∧UpdO A w w'∧Kept w A A':=by
 obtain⟨i,hi,hz,o,G⟩:=info_parts hinfo;have h1':∀u∈news,u.oneCell'=true:=by simpa [gK] using h1
 have I:n+m≤maxLen:=by rw [eV];omega
 have h:(n+m)*bytes≤140737488355328:=by
  have:(n+m)*bytes≤1099511627776*64:=kP hm hby
  omega
 rcases hown with⟨rfl,rfl,rfl,rfl⟩ | ⟨g,cs,rfl,hg,hk,hn,Y,X,H⟩
 ·obtain⟨v',w',hr,h2,W,_⟩:=run_append_own (P:=P) w w.heap.size t ty e i z s bytes ht hi hz o G hzs hsz (up none 0 0) 0 [] (World.ownsRow_nil w _ e s) a m c news hl hnews h1' I h (aU _);obtain⟨A',cap',rfl,F⟩:=Own.of_row h2;exact⟨A',cap',w',hr,F.mono hb,UpdO.of W,fun a' M=>cN (F.block a' M).1⟩
 by_cases f:n+m≤cap
 ·have aa:n*s+news.length≤cs.length:=by rw [hl,X,←eE];exact fC s f
  obtain⟨w',Z,E,hu,hs⟩:=zT (P:=P) news 0 (n*s) w cs hk i9 h1';rw [fN] at E;have U:=run_firstCells_some (P:=P) w i.size m a m c news (by rw [o];exact hl) hnews;rw [o] at U;refine⟨some ⟨g,0,none⟩,cap,w',?_,cN ⟨g,_,rfl,hg,E,f,Y,?_,?_⟩,hu.updO,fun a' M=>cJ ⟨_,rfl,by cases M;rfl⟩⟩
  ·simp [pG,nL ht,sizeOf,typeInfo,hi,Builtin.lenOf,f,U,Addr.add_lit,o,Z]
  ·unfold jP;simp only [f8,eB,iK];omega
  rw [eE,←hl];exact LP H i9
 have hx:=H
 obtain⟨v',w',hr,h2,W⟩:=run_append_arg_grows (P:=P) w t ty e i z s bytes ht hi hz o G hzs hsz ⟨g,0,none⟩ n cap xs
  (by rw [←H,eB];have:=fC s hn;omega)
  (fun j u L=>by
   have V:=(gU.1 L).1
   rw [jI,eR,hk.cell (by rw [←H,eB] at V;omega)]
   rw [←H,List.getElem?_take] at L
   split at L
   ·rw [bL,L];rfl
   ·cases L) a m c news hl hnews i9 I h
 obtain⟨A',cap',rfl,F⟩:=Own.of_row h2;exact⟨A',cap',w',hr,F.mono hb,UpdO.of W,fun a' M=>cN (F.block a' M).1⟩
variable {Q:dX→Act→a6→Prop}{n:Nat}{l:Fr}{w:a6}{ops:Array bE}{rest:List bE}{d:Nat}{ty:aS}{pos:String}{af:Array fL}{gd:Option (Nat×Bool)}
theorem nR {x y:cR}{z:aF}{s:Nat}{a:a7}{xs:List aF}(hw:dD ops l gd=some true)(hx:cB l x=some (up A k cap))(hy:cB l y=some (up (some a) m c))(ht:P.underlying t=some (.slice e))(hinfo:(P.info? e).map (fun i=>(i.zero,i.size,i.bytes))=some (some z,s,bytes))(hzs:z.cells.size=s)(hown:Own w base e s A k cap xs)(hb:base≤w.heap.size)(news:List aF)(hl:news.length=m*s)(hnews:∀j u,news[j]?=some u→w.cell? (a.add j)=some u)(h1:news.all (·.oneCell')=true)(h:∀A' cap' w',Own w' base e s A' (k+m) cap' (xs++news)→UpdO A w w'→Kept w A A'→wl P ops Q n rest ((d,up A' (k+m) cap')::l) w')(hsz:0<s:=by decide)(hby:bytes≤64:=by decide)(hm:k+m≤1099511627776:=by omega)(hn:d<n:=by decide):wl P ops Q n (⟨some d,.call {callee:= .builtin .append,args:= #[x,y],argTypes:= #[t,t]},ty,pos,af,gd⟩::rest) l w:=by
 obtain⟨A',cap',w',hr,h2,E,o⟩:=AH (P:=P) (ty:=ty) ht hinfo hzs hsz hby hown hb hl hnews h1 hm;refine gO hw hn (fun a' f=>?_) (h A' cap' w' h2 E o);unfold execOp;simp only [resolve,invoke,builtin,cV,iH,fK,pE,jS,kR,f.ev hx,f.ev hy];rw [hr];rfl
end
theorem Own.updOT {s:Nat}(h:Own w b t s A n cap vs)(ho:Own w b' T s' B m c us)(hT:t≠T)(x:UpdO B w w'):Own w' b t s A n cap vs:=by
 refine h.updO x (fun p q o f hg=>?_);rcases ho with⟨h1,_⟩ | ⟨k,cs,F,_,E,_⟩
 ·rw [h1] at o;cases o
 rcases h with⟨h2,_⟩ | ⟨k',cs',G,_,hk',_⟩
 ·rw [h2] at f;cases f
 rw [F] at o;rw [G] at f;cases o;cases f;simp only at hg;subst hg;unfold Bk at E hk';rw [E] at hk';injection hk' with hk';injection hk' with e1 e2;exact hT e2.symm
theorem YP (v:aF)(h:Bk w g T [v]):∀j u,[v][j]?=some u→w.cell? ((⟨g,0,none⟩:a7).add j)=some u:=by
 intro j u o;have f:=(gU.1 o).1;rw [jI,eR,h.cell f,bL,o];rfl
theorem zW (A:Option a7)(c k:Nat):Value.slice (if c=0 then A else A.map (·.add (0*1))) (k-0) (c-0)= up A k c:=by
 have h0:A.map (·.add (0*1))=A:=by
  cases A with
  | none=>rfl
  | some a=>simp [pI]
 rw [h0,ite_self];rfl
theorem mU:Tryz.prog.underlying 36=some (.slice 22):=by kernel_rfl
theorem oN (w:a6):(sizeOf 22).run aM w= .ok 1 w:=by kernel_rfl
theorem sH (w:a6):(isAgg 22).run aM w= .ok false w:=by kernel_rfl
theorem xZ:(Tryz.prog.info? 22).map (fun i=>(i.zero,i.size,i.bytes))=some (some (up none 0 0),1,24):=by kernel_rfl
def sgn (d:Nat):Nat:=if d<10 then 48+d else 87+d
def B8 (x:Nat):aF:= .int .u8 (x:Int)
theorem JH:sgn 0=48:=rfl
theorem JI (h:d<36):sgn d≤122:=by unfold sgn;split <;> omega
def aN (bs:List Nat):ByteArray:=⟨(bs.map UInt8.ofNat).toArray⟩
def fG (l:List Nat)(k:Nat):List Nat:=l++dF (k-l.length) 0
theorem tM (l:List Nat)(k:Nat):(fG l k).length=max l.length k:=by simp only [fG,f8,List.length_replicate];omega
def eT (l:List Nat):List Nat:=l.reverse.map sgn
theorem zN (l r:List Nat):eT (l++r)=eT r++eT l:=by simp [eT]
theorem zM (l:List Nat):(eT l).length=l.length:=by simp [eT]
theorem T0 (k:Nat):eT (dF k 0)=dF k 48:=by simp [eT,JH]
theorem DE (l:List Nat)(k:Nat):eT (fG l k)=dF (k-l.length) 48++eT l:=by rw [fG,zN,T0]
theorem m9 (w:a6):(sizeOf 5).run aM w= .ok 1 w:=by kernel_rfl
theorem GJ (w:a6):(isAgg 5).run aM w= .ok false w:=by kernel_rfl
theorem m8:Tryz.prog.underlying 114=some (.slice 5):=by kernel_rfl
theorem vQ:(Tryz.prog.info? 5).map (fun i=>(i.zero,i.size,i.bytes))=some (some (.int .u8 0),1,1):=by kernel_rfl
theorem C8 (w:a6):(isAgg 3).run aM w= .ok false w:=by kernel_rfl
theorem EX (xs:List Nat)(i x:Nat):(xs.map B8).set i (.int .u8 (x:Int))=(xs.set i x).map B8:=by rw [List.map_set];rfl
section
variable {P:cO}{Q:dX→Act→a6→Prop}{n:Nat}{l:Fr}{w:a6}{ops:Array bE}{rest:List bE}{d:Nat}{op:Op}{ty:aS}{pos:String}{af:Array fL}{gd:Option (Nat×Bool)}
theorem W6 {s:Nat}{a:a7}{k:j7}{i:Int}{p:a7}(hT:P.underlying t=some (.array m e))(hs:∀w,(sizeOf e).run P w= .ok s w)(hi:i=(j:Int))(hj:j<m)(hp:a.add (j*s)=p):(Instr.indexAt t (.pointer (some a)) (.int k i)).run P w= .ok (.pointer (some p)) w:=by
 subst hi hp;have h:(underlying t).run P w= .ok (.array m e) w:=nL hT w;have f:(Instr.sureAddr (.pointer (some a))).run P w= .ok a w:=rfl;unfold Instr.indexAt;simp only [asIntOf,cV,iH,fK,h,f];rw [if_pos ⟨by omega,by omega⟩];simp only [cV,hs w,fK,iH,jB]
theorem D6 (hw:dD ops l gd=some true){x y:cR}{s:Nat}{a:a7}{k:j7}{i:Int}(hx:cB l x=some (.pointer (some a)))(hy:cB l y=some (.int k i))(hT:P.underlying t=some (.array m e))(hs:∀w,(sizeOf e).run P w= .ok s w)(j:Nat)(hi:i=(j:Int))(hj:j<m)(p:a7)(hp:a.add (j*s)=p)(h:wl P ops Q n rest ((d,.pointer (some p))::l) w)(hn:d<n:=by decide):wl P ops Q n (⟨some d,.indexAddr t x y,ty,pos,af,gd⟩::rest) l w:=
 gO hw hn (fun a' f=>by
  have e:(Instr.indexAt t (a'.eval x) (a'.eval y)).run P w= .ok (.pointer (some p)) w:=by rw [f.ev hx,f.ev hy];exact W6 hT hs hi hj hp
  show ((Instr.indexAt t (a'.eval x) (a'.eval y)>>=fun r=>pure (iE r):Sem gS)).run P w=_
  rw [cV,e];rfl) h
theorem VZ {s lo:Nat}{a:a7}(hT:P.underlying t=some (.array m e))(hs:∀w,(sizeOf e).run P w= .ok s w)(h3:lo≤m):(Instr.sliceAt t (.pointer (some a)) (some (no (lo:Int))) none none).run P w= .ok (up (some (if m=lo then a else a.add (lo*s))) (m-lo) (m-lo)) w:=by
 have h:(underlying t).run P w= .ok (.array m e) w:=nL hT w;have f:(Instr.sureAddr (.pointer (some a))).run P w= .ok a w:=rfl
 have hb:(Instr.sliceBounds false m m (some (no (lo:Int))) none none).run P w= .ok (lo,m,m) w:=by
  unfold Instr.sliceBounds
  simp only [cV,iH,fK,Option.isSome,xF h3]
 unfold Instr.sliceAt;simp only [cV,h,fK,f,hb,hs w,iH]
theorem X7 {x y:cR}{s lo:Nat}{a:a7}(hx:cB l x=some (.pointer (some a)))(hy:cB l y=some (no (lo:Int)))(hT:P.underlying t=some (.array m e))(hs:∀w,(sizeOf e).run P w= .ok s w)(h3:lo≤m):jA P n l ⟨dst,.slice t x (some y) none none,ty,pos,af,gd⟩ w (.value (up (some (if m=lo then a else a.add (lo*s))) (m-lo) (m-lo))) w:=fun a' f=>by
 have e:(Instr.sliceAt t (a'.eval x) (some (a'.eval y)) none none).run P w= .ok (up (some (if m=lo then a else a.add (lo*s))) (m-lo) (m-lo)) w:=by rw [f.ev hx,f.ev hy];exact VZ hT hs h3
 show ((Instr.sliceAt t (a'.eval x) (some (a'.eval y)) none none>>=fun r=>pure (iE r):Sem gS)).run P w=_
 rw [cV,e];rfl
theorem X8 {x y:cR}{u r:aF}(hx:cB l x=some u)(hy:cB l y=some v)(hr:(pG #[t,t] ty #[u,v]).run P w= .ok r w'):jA P n l ⟨dst,.call {callee:= .builtin .append,args:= #[x,y],argTypes:= #[t,t]},ty,pos,af,gd⟩ w (.value r) w':=fun a' f=>by
 unfold execOp
 simp only [resolve,invoke,builtin,cV,iH,fK,pE,jS,kR,f.ev hx,f.ev hy]
 rw [hr]
 rfl
end
def Signs (w:a6):Prop:=∀d,d<36→w.cell? ⟨3,d,none⟩=some (.int .u8 ((sgn d:Nat):Int))
theorem Signs.ext (h:Signs w)(e:Ext w w'):Signs w':=fun d f=>e.cell (h d f)
def Wr (w:a6)(g base k unit:Nat)(PA:Option a7)(pn pc:Nat)(OA:Option a7)(on oc:Nat):Prop:=
 Bk w g 130 [no (base:Int),no (k:Int),t9 (unit:Int),up PA pn pc,up OA on oc]
structure UpdW (lb:Nat)(w w':a6):Prop where
 os:w'.os=w.os
 tape:w'.tape=w.tape
 output:w'.output=w.output
 size:w.heap.size≤w'.heap.size
 low:∀k,k<lb→k<w.heap.size→w'.heap[k]?=w.heap[k]?
 typ:∀(k:Nat) (cs:Array aF) (t:aS) (fr:Nat×Nat),w.heap[k]?=some (.cells cs t fr)→t≠130→t≠5→w'.heap[k]?=some (.cells cs t fr)
section
variable {lb:Nat}{a b c w w':a6}
theorem UpdW.refl (lb:Nat)(w:a6):UpdW lb w w:=⟨rfl,rfl,rfl,aU _,fun _ _ _=>rfl,fun _ _ _ _ h _ _=>h⟩
theorem UpdW.trans (h:UpdW lb a b)(e:Ext b c):UpdW lb a c:=
 ⟨e.below.os.trans h.os,e.below.tape.trans h.tape,e.below.output.trans h.output,a8 h.size e.size,fun k o hs=>(e.below.block k (dA hs h.size)).trans (h.low k o hs),fun k cs t fr f h1 h2=>e.heap (h.typ k cs t fr f h1 h2)⟩
theorem UpdW.then (h:UpdW lb a b)(e:UpdW lb b c):UpdW lb a c:=
 ⟨e.os.trans h.os,e.tape.trans h.tape,e.output.trans h.output,a8 h.size e.size,fun k f hs=>(e.low k f (dA hs h.size)).trans (h.low k f hs),fun k cs t fr o h1 h2=>e.typ k cs t fr (h.typ k cs t fr o h1 h2) h1 h2⟩
theorem UpdW.upd (h:UpdW lb a b)(u:Upd g b c)(hg:lb≤g)(hn:∀(cs:Array aF) (t:aS) (fr:Nat×Nat),a.heap[g]?=some (.cells cs t fr)→t=130∨t=5):UpdW lb a c:=
 ⟨u.by_.os.trans h.os,u.by_.tape.trans h.tape,u.by_.output.trans h.output,a8 h.size u.by_.size,fun k E hs=>(u.by_.block k (dA hs h.size) (fun e=>by injection e with e;omega)).trans (h.low k E hs),fun k cs t fr f h1 h2=>by
  have o:k<a.heap.size:=(qB.1 f).1
  refine (u.by_.block k (dA o h.size) (fun e=>?_)).trans (h.typ k cs t fr f h1 h2)
  injection e with e
  subst e
  rcases hn cs t fr f with e | e
  ·exact h1 e
  ·exact h2 e⟩
theorem UpdW.updO (h:UpdW lb a b)(u:UpdO A b c)(hA:∀p,A=some p→lb≤p.block)(hn:∀(p:a7) (cs:Array aF) (t:aS) (fr:Nat×Nat),A=some p→a.heap[p.block]?=some (.cells cs t fr)→t=130∨t=5):UpdW lb a c:=
 ⟨u.by_.os.trans h.os,u.by_.tape.trans h.tape,u.by_.output.trans h.output,a8 h.size u.by_.size,fun k E hs=>(u.by_.block k (dA hs h.size) (fun e=>by
   cases A with
   | none=>cases e
   | some p=>have e':k=p.block:=kO e;have:=hA p rfl;omega)).trans (h.low k E hs),fun k cs t fr f h1 h2=>by
  have o:k<a.heap.size:=(qB.1 f).1
  refine (u.by_.block k (dA o h.size) (fun e=>?_)).trans (h.typ k cs t fr f h1 h2)
  cases A with
  | none=>cases e
  | some p=>
   have e':k=p.block:=kO e
   subst e'
   rcases hn p cs t fr rfl f with e | e
   ·exact h1 e
   ·exact h2 e⟩
theorem UpdW.ext (h:UpdW lb w w')(e:Ext a w)(hl:a.heap.size≤lb):Ext a w':=
 ⟨⟨h.os.trans e.below.os,h.tape.trans e.below.tape,h.output.trans e.below.output,a8 e.size h.size,fun k f=>(h.low k (dA f hl) (dA f e.size)).trans (e.below.block k f)⟩⟩
theorem UpdW.bk (h:UpdW lb w w')(hb:Bk w g t vs)(h1:t≠130)(h2:t≠5):Bk w' g t vs:=h.typ g _ _ _ hb h1 h2
theorem UpdW.own {s:Nat}(h:UpdW lb w w')(ho:Own w base t s A n cap vs)(h1:t≠130)(h2:t≠5):Own w' base t s A n cap vs:=by
 rcases ho with ho | ⟨g,cs,o,hb,f,r⟩
 ·exact cJ ho
 exact cN ⟨g,cs,o,hb,h.bk f h1 h2,r⟩
theorem UpdW.cell {p:a7}(h:UpdW lb w w')(hp:p.block<lb)(hc:w.cell? p=some v):w'.cell? p=some v:=
 (World.cell?_of_block (h.low p.block hp (wI w p hc))).trans hc
theorem UpdW.signs (h:UpdW lb w w')(hs:Signs w)(hl:3<lb):Signs w':=fun d f=>h.cell hl (hs d f)
end
theorem a3p {c:Bool}(e:eF)(w':a6)(h:Gv w (Is (.bool c)) e w'):uE c w e w':=by
 obtain⟨v,rfl,h1,h2⟩:=h;exact⟨by rw [h1],h2⟩
structure PieceK (b k:Nat):Prop where
 le:b^k≤18446744073709551615
 gt:18446744073709551615<b^(k+1)
 le64:k≤64
theorem Y6 (hb:2≤b)(h:b^k≤18446744073709551615):k<64:=by
 refine pC (fun f=>?_);have h1:2^64≤b^k:=a8 (fZ yd f) (Nat.pow_le_pow_left hb k);omega
theorem YB (hb:2≤b)(h:b^(k+1)≤18446744073709551615):k+1≤64:=by have:=Y6 hb h;omega
theorem GF (h:Bk w g t vs)(h':w.heap[g]?=some (.cells cs t' fr)):t'=t:=by
 unfold Bk at h;rw [h] at h';injection h' with h';injection h' with h1 h2;exact h2.symm
theorem GG (h:w.heap.size≤g):¬w.heap[g]?=some (.cells cs t fr):=fun e=>by
 have:=(qB.1 e).1
 omega
theorem EF {t T s:Nat}(h:Own w b t s A n c us)(hb:Bk w g T vs)(hT:t≠T):∀p,A=some p→p.block≠g:=fun p f e=>by
 rcases h with⟨h,_⟩ | ⟨k,cs,E,_,o,_⟩
 ·rw [h] at f;cases f
 ·rw [E] at f
  cases f
  simp only at e
  subst e
  unfold Bk at o hb
  rw [o] at hb
  injection hb with hb
  injection hb with h1 h2
  exact hT h2
theorem C7 (g i:Nat):(⟨g,0,none⟩:a7).add (i*1)=⟨g,i,none⟩:=by rw [eH,jI,eR]
theorem LK {T s:Nat}(h:Own w b T s A n c us):∀(p:a7) (cs:Array aF) (t:aS) (fr:Nat×Nat),A=some p→w.heap[p.block]?=some (.cells cs t fr)→t=T:=fun p cs t fr f h'=>by
 rcases h with⟨h,_⟩ | ⟨k,cs',o,_,E,_⟩
 ·rw [h] at f;cases f
 ·rw [o] at f;cases f
  exact GF E h'
theorem Kept.of {v:a6}(h:Kept v A A')(hs:w.heap.size≤v.heap.size):Kept w A A':=fun p f=>(h p f).imp id (fun e=>a8 hs e)
def CB (w:a6)(lb g base k unit:Nat)(PA:Option a7)(pn pc:Nat)(OA:Option a7)(bs:List Nat)(e:eF)(w':a6):Prop:=
 e= .returned (.tuple #[])∧∃OA' on' oc',Wr w' g base k unit PA pn pc OA' on' oc'∧Own w' lb 5 1 OA' on' oc' (bs.map B8)∧UpdW lb w w'∧Kept w OA OA'
theorem P8 {x:Nat}(h:i<l.length):(l.set i x).drop i=x::l.drop (i+1):=by
 rw [pF (by rw [List.length_set];exact h),List.getElem_set_self,List.drop_set_of_lt i9]
theorem T4 (l:List Nat)(d:Nat):eT (l++ [d])=sgn d::eT l:=by simp [eT]
theorem RY {v vv:Nat}{acc:List Nat}(hb:2≤b)(hv:v≤18446744073709551615)(h:db b v=acc++db b vv)(hn:0<(db b vv).length):acc.length<64:=by
 have h1:(db b v).length≤64:=lY hb (dA (show v<2^64 by omega) (Nat.pow_le_pow_left hb 64));rw [h,f8] at h1;omega
theorem a37 (l:List Nat):(l.map B8).all (·.oneCell')=true:=by
 rw [gK];intro u f;obtain⟨x,_,rfl⟩:=m4.1 f;rfl
theorem a3H {lo:Nat}(h:Bk w g T (l.map B8))(hl:l.length=64)(hlo:lo≤64):∀j u,((l.drop lo).map B8)[j]?=some u→w.cell? ((if 64=lo then (⟨g,0,none⟩:a7) else (⟨g,0,none⟩:a7).add (lo*1)).add j)=some u:=by
 intro j u o;have f:=(gU.1 o).1;rw [List.length_map,iK,hl] at f;rw [if_neg i9,C7,jI];rw [h.cell (by rw [List.length_map,hl];omega)];rw [wP,nO] at o;rw [bL,o];rfl
theorem JU (hbl:2≤base)(hbu:base≤36):aQ aM 162 #[no base] w (fun e w'=>∃k,PieceK base k∧Gv w (T2 (Is (no k)) (Is (t9 (base^k:Nat)))) e w'):=by
 refine bU Tryz.func162 19 J (sr (aE 2 J (sr (aE 2 J (aD (bO ?_))))));refine dC (T:=a6×Nat×Nat) (fun⟨wr,k,p⟩=> [(0,no base),(2,no 0),(3,t9 0),(4,no k),(5,t9 p)]) (fun⟨wr,k,p⟩=>wr) (fun⟨wr,k,p⟩=>(Ext w wr)∧(p=base^k)∧(p≤18446744073709551615)∧(k≤64)) (fun⟨wr,k,p⟩=>18446744073709551616-p) (⟨w,0,1⟩:a6×Nat×Nat) ⟨bN,(Nat.pow_zero base).symm,yd,yd⟩ J (aP J) ?_;rintro⟨wr,k,p⟩ ⟨F,E,G,I⟩;refine aD (aD ?_);have H:1≤p:=by rw [E];exact iI i9
 by_cases f:p≤18446744073709551615/base
 ·have o:p*base≤18446744073709551615:=(Nat.le_div_iff_mul_le i9).1 f;refine aK 2 J (mL base J (bD J (kU 18446744073709551615 base J) (aH J (pS p (18446744073709551615/base) J) (aG (bC J (bB (aL (bO (aV 2 J (mL base J (bD J (lV p base J) ?_)))))))))));refine aE 1 J (aK 1 J (bD J (cK k 1 J) (bS 1 J (bT (cP (⟨wr,k+1,p*base⟩:a6×Nat×Nat) ⟨F,(by rw [E,dS]),o,(YB hbl (by rw [dS,←E];exact o))⟩ (by show 18446744073709551616-p*base<18446744073709551616-p;have:p*2≤p*base:=gT p hbl;omega) J (aP J))))))
 have o:18446744073709551615<p*base:=pC (fun h=>f ((Nat.le_div_iff_mul_le i9).2 h));refine aK 2 J (mL base J (bD J (kU 18446744073709551615 base J) (aH J (pT p (18446744073709551615/base) J) (aG (aT J (d9 (cY (d7 (d8 (aL (aV 1 J ?_)))))))))));refine aE 3 J (bA (aZ [no k,t9 p] J ⟨rfl,rfl,xl⟩ ?_));exact⟨k,⟨by rw [←E];exact G,by rw [dS,←E];exact o,I⟩,_,rfl,⟨_,_,rfl,rfl,(show eL .u64 ((p:Nat):Int)=_ by rw [E])⟩,F⟩
theorem JS {pc:Nat}(hS:Signs w)(_hgS:3<lb)(hbl:2≤base)(hbu:base≤36)(hW:Wr w g base k unit PA pn pc OA on oc)(hO:Own w lb 5 1 OA on oc (bs.map B8))(hgl:lb≤g)(hlb:lb≤w.heap.size){v:Nat}(hv:v≤18446744073709551615)(hwd:width≤64)(hon:on≤549755813888):aQ aM 185 #[i5 g 0,t9 v,no width] w (CB w lb g base k unit PA pn pc OA (bs++eT (fG (db base v) width))):=by
 refine bU Tryz.func185 48 J (sr (iL J (z:= .agg ((dF 64 0).map B8).toArray) (vs:=(dF 64 0).map B8) ye J fun H v2 nb=>?_));have bj:=nb.bk;have I:w.heap.size≤H:=by rw [←nb.at_];exact (UpdW.refl lb w).size
 have ch:g<H:=by rw [←nb.at_];exact hW.lt
 have e5:=nb.ext;have F:UpdW lb w v2:=(UpdW.refl lb w).trans e5;have f:Ext w v2:=(Ext.refl w).trans e5;refine aG (sr (aE 1 J (aD (bO ?_))));refine dC (T:=a6×Nat×Nat×List Nat×List Nat) (fun⟨wr,vv,n,l,acc⟩=> [(0,i5 g 0),(2,no width),(6,i5 H 0),(1,t9 vv),(7,no n)]) (fun⟨wr,vv,n,l,acc⟩=>wr) (fun⟨wr,vv,n,l,acc⟩=>(UpdW lb w wr)∧(Ext w wr)∧(db base v=acc++db base vv)∧(n+acc.length=64)∧(l.length=64)∧(l.drop n=eT acc)∧(vv≤18446744073709551615)∧(Bk wr H 150 (l.map B8))) (fun⟨wr,vv,n,l,acc⟩=>vv) (⟨v2,v,64,dF 64 0,[]⟩:a6×Nat×Nat×List Nat×List Nat) ⟨F,f,rfl,rfl,(List.length_replicate),(by rw [List.drop_eq_nil_of_le (by rw [List.length_replicate];decide)];rfl),hv,bj⟩ J (aP J) ?_;rintro⟨wr,vv,n,l,acc⟩ ⟨F,f,L,hn,ae,aq,bu,b_d⟩;refine aD (aD ?_);by_cases ci:vv>0
 ·have ao:=nG hbl (show vv≠0 by omega);have cm:acc.length<64:=RY hbl hv L (by rw [ao];simp);refine aK 1 J (aH J (gB vv 0 J) (aG (bC J (bB (aL (bO (aV 1 J (bD J (iU n 1 J) (aE 1 J (aD ?_))))))))));refine aK 3 J (pf g 0 J (pf g 0 J (dG (hW.ext f) J (mL base J (bD J (kT vv base J) (D6 J J J Tryz.underlying151 m9 (vv%base) J (dA (g7 _ i9) hbu) ⟨3,vv%base,none⟩ (C7 _ _) (bG (d5 GJ ((hS.ext f) _ (dA (g7 _ i9) hbu))) J (D6 J J J Tryz.underlying150 m9 (n-1) J i9 ⟨H,n-1,none⟩ (C7 _ _) ?_))))))));have bf:=b_d;refine i0 J J J m9 J bf (iQ (by rw [ae];omega)) J ((l.set (n-1) (sgn (vv%base))).map B8) (EX _ _ _) fun v6 br u9 _=>?_;have Y:Ext w v6:=u9.ext f I;have E:UpdW lb w v6:=F.upd u9 (a8 hlb I) (fun _ _ _ h=>absurd h (GG I));refine aG (aK 2 J (pf g 0 J (pf g 0 J (dG ((hW.ext f).vN u9) J (mL base J (bD J (kU vv base J) (bS 1 J (bT (cP (⟨v6,vv/base,n-1,l.set (n-1) (sgn (vv%base)),acc++ [vv%base]⟩:a6×Nat×Nat×List Nat×List Nat) ⟨E,Y,(by rw [L,ao,List.append_assoc];rfl),(by rw [f8,List.length_singleton];omega),(by rw [List.length_set];exact ae),(by rw [P8 i9,show n-1+1=n by omega,aq,T4]),(a8 (gN _ _) bu),br⟩ (m0 i9 i9) J (aP J))))))))))
 refine aK 1 J (aH J (i7 vv 0 J) (aG (aT J (d9 (cY (d7 (d8 (aL (aD (bO ?_))))))))));have U:db base v=acc:=by rw [L,show vv=0 by omega,lC,m7]
 refine dC (T:=a6×Nat×List Nat×Nat) (fun⟨wq,m,l2,z⟩=> [(0,i5 g 0),(2,no width),(6,i5 H 0),(7,no m)]) (fun⟨wq,m,l2,z⟩=>wq) (fun⟨wq,m,l2,z⟩=>(UpdW lb w wq)∧(Ext w wq)∧(m+z+acc.length=64)∧(z≤width-acc.length)∧(l2.length=64)∧(l2.drop m=dF z 48++eT acc)∧(Bk wq H 150 (l2.map B8))) (fun⟨wq,m,l2,z⟩=>m) (⟨wr,n,l,0⟩:a6×Nat×List Nat×Nat) ⟨F,f,i9,(bX _),ae,aq,b_d⟩ J (aP J) ?_;rintro⟨wq,m,l2,z⟩ ⟨F,f,_,_,G,ab,b_d⟩;refine aD (aD ?_);by_cases cj:64-m<width
 ·refine aK 1 J (bD J (iU 64 m J) (mv 1 J (aH J (dV (64-m) width J) (aG (bC J (bB (aL (bO (aV 1 J (bD J (iU m 1 J) (mv 1 J ?_)))))))))));refine aG (aK 1 J (D6 J J J Tryz.underlying150 m9 (m-1) J i9 ⟨H,m-1,none⟩ (C7 _ _) ?_));have aw:=b_d;refine i0 J J J m9 J aw (iQ (by rw [G];omega)) J ((l2.set (m-1) 48).map B8) (EX _ _ _) fun ag av az _=>?_;have Y:Ext w ag:=az.ext f I;have E:UpdW lb w ag:=F.upd az (a8 hlb I) (fun _ _ _ h=>absurd h (GG I));refine cF (bT (cP (⟨ag,m-1,l2.set (m-1) 48,z+1⟩:a6×Nat×List Nat×Nat) ⟨E,Y,i9,i9,(by rw [List.length_set];exact G),(by rw [P8 i9,show m-1+1=m by omega,ab,List.replicate_succ];rfl),av⟩ (show m-1<m by omega) J (aP J)))
 refine aK 1 J (bD J (iU 64 m J) (mv 1 J (aH J (dQ (64-m) width J) (aG (aT J (d9 (cY (d7 (d8 (aL (f9 [(0,i5 g 0),(2,no width),(6,i5 H 0),(7,no m),(30,no m),(31,no (64-m:Nat)),(32,no width),(33,wk)] (aP J) ?_)))))))))));obtain⟨X,hv,o⟩:=gH wq;have E:UpdW lb w X:=F.trans o;have Y:Ext w X:=f.trans o;have V:=(hO.ext (f.trans o));obtain⟨M,W,ah,ba,aj,Z,ak⟩:=AH (P:=aM) (t:=114) (ty:=114) (m:=64-m) (c:=64-m) m8 vQ J yd yd V (a8 hlb E.size) (news:=((l2).drop m).map B8) (by rw [List.length_map,iK,G,eH]) (a3H (b_d.ext o) (G) i9) (a37 _) i9;have bg:UpdW lb w ah:=E.updO Z (fun p hp=>(V.block p hp).1) (fun p cs t fr hp h=>cN ((LK hO) p cs t fr hp h));have aa:=((hW.ext (f.trans o)).updO Z (EF V (hW.ext (f.trans o)) yd));obtain⟨bd,am,au,ai,_⟩:=xE (P:=aM) (v:= up M (on+(64-m)) W) (off:=4) (T:=114) ye J aa (bq J) J [no (base:Int),no (k:Int),t9 (unit:Int),up PA pn pc,up M (on+(64-m)) W] rfl;have bp:UpdW lb w bd:=bg.upd ai hgl (fun _ _ _ h=>cJ (GF hW h));refine gJ cM X [i5 g 0,i5 g 0,i5 g 0,i5 g 4,up OA on oc,no m,up (some (if 64=m then ⟨H,0,none⟩ else (⟨H,0,none⟩:a7).add (m*1))) (64-m) (64-m),up M (on+(64-m)) W,i5 g 0,i5 g 4,undef] [X,ah,bd] [7,10] [[],[],[1],[2],[3],[],[5],[4,6],[0],[8],[7,9]] [(0,0),(0,1),(1,0),(2,0),(3,0),(4,0),(5,0),(6,0),(7,0),(8,1),(9,1),(10,1)] J hv ?_ ?_
 ·refine aR J (cC J) (aR J (cC J) (aR J (cC J) (aR J (iO J) (aR J (iO J) (aR J (cS J (cE ye (hW.ext (f.trans o)) J)) (aR J (cC J) (aR J (X7 J J Tryz.underlying150 m9 i9) (yC _ J J J J J J (X8 J J ba) (aR J (iO J) (aR J (iO J) (fV _ J J J J J J (fQ J J am) ?_)))))))))));exact gI
 clear hv;refine fU [(0,i5 g 0),(2,no width),(6,i5 H 0),(7,no m),(30,no m),(31,no (64-m:Nat)),(32,no width),(33,wk),(38,i5 g 0),(39,i5 g 0),(40,i5 g 0),(41,i5 g 4),(42,up OA on oc),(43,no m),(44,up (some (if 64=m then ⟨H,0,none⟩ else (⟨H,0,none⟩:a7).add (m*1))) (64-m) (64-m)),(45,up M (on+(64-m)) W),(46,i5 g 0),(47,i5 g 4)] (aP J) (sA [] J xl ?_);have ar:bs.map B8++((l2).drop m).map B8=(bs++eT (fG (db base v) width)).map B8:=by rw [ab,←U,DE,show z=width-(db base v).length by rw [U];omega];simp only [List.map_append]
 exact⟨rfl,M,_,_,au,ar▸((aj.updT aa yd ai)),bp,ak.of E.size⟩
theorem jG (x y:Int):ln (x.tdiv y)≤ln x:=fR (by rw [Int.natAbs_tdiv];exact gN _ _)
theorem tK (x y:Int):ln (x.tmod y)≤ln x:=fR (by rw [Int.natAbs_tmod];exact Nat.mod_le _ _)
theorem FT (h:0≤x.tmod y:=by omega):x.tdiv y=x/y∧x.tmod y=x%y:=by
 have h1:=Int.tdiv_mul_add_tmod x y;rcases Int.lt_trichotomy y 0 with f | f | f
 ·have h2:x.tmod y< -y:=by have:=nS (x:=x) (y:=y) i9;omega
  have e:x.tmod y=x%y:=by
   have:x%y=(x.tmod y+y*x.tdiv y)%y:=by rw [Int.mul_comm y];congr 1;omega
   rw [this,Int.add_mul_emod_self_left,←Int.emod_neg,Int.emod_eq_of_lt h h2]
  refine⟨?_,e⟩;have o:=Int.mul_ediv_add_emod x y;rw [←e] at o;refine Int.eq_of_mul_eq_mul_left (a:=y) i9 ?_;rw [Int.mul_comm y (x.tdiv y)];omega
 ·subst f;simp
 have h2:=Int.tmod_lt_of_pos x f
 have e:x.tmod y=x%y:=by
  have:x%y=(x.tmod y+y*x.tdiv y)%y:=by rw [Int.mul_comm y];congr 1;omega
  rw [this,Int.add_mul_emod_self_left,Int.emod_eq_of_lt h h2]
 refine⟨?_,e⟩;have o:=Int.mul_ediv_add_emod x y;rw [←e] at o;refine Int.eq_of_mul_eq_mul_left (a:=y) i9 ?_;rw [Int.mul_comm y (x.tdiv y)];omega
theorem P5 (h:x.tmod y<0)(hy:y<0):x.tdiv y+1=x/y∧x.tmod y-y=x%y:=by
 have h1:=Int.tdiv_mul_add_tmod x y;have h2: -(x.tmod y)< -y:=by have:=nS (x:=x) (y:=y) i9;omega
 have e:x.tmod y-y=x%y:=by
  have:x%y=((x.tmod y-y)+y*(x.tdiv y+1))%y:=by rw [Int.mul_add,Int.mul_comm y];congr 1;omega
  rw [this,Int.add_mul_emod_self_left,←Int.emod_neg,Int.emod_eq_of_lt i9 i9]
 refine⟨?_,e⟩;have f:=Int.mul_ediv_add_emod x y;rw [←e] at f;refine Int.eq_of_mul_eq_mul_left (a:=y) i9 ?_;rw [Int.mul_add,Int.mul_comm y (x.tdiv y)];omega
theorem P4 (h:x.tmod y<0)(hy:0<y):x.tdiv y-1=x/y∧x.tmod y+y=x%y:=by
 have h1:=Int.tdiv_mul_add_tmod x y;have h2: -(x.tmod y)<y:=by have:=nS (x:=x) (y:=y) i9;omega
 have e:x.tmod y+y=x%y:=by
  have:x%y=((x.tmod y+y)+y*(x.tdiv y-1))%y:=by rw [Int.mul_sub,Int.mul_comm y];congr 1;omega
  rw [this,Int.add_mul_emod_self_left,Int.emod_eq_of_lt i9 i9]
 refine⟨?_,e⟩;have f:=Int.mul_ediv_add_emod x y;rw [←e] at f;refine Int.eq_of_mul_eq_mul_left (a:=y) i9 ?_;rw [Int.mul_sub,Int.mul_comm y (x.tdiv y)];omega
theorem a0W {nb:Nat}(hx:Zi w sa Aa na ca x)(la:na≤68719476736)(hy:Zi w sb Ab nb cb y)(lb:nb≤68719476736)(h0:y≠0):aQ aM 118 #[O sa Aa na ca,O sb Ab nb cb] w (Gv w (T3 (ZR w.heap.size (x/y)) (ZR w.heap.size (x%y)) (Is (no 0)))):=by
 have Lx:=bP hx la;have Ly:=bP hy lb;refine bU Tryz.func118 41 J (sr (bx (a5 sa Aa na ca) bN J J J fun g1 _ ij _ _ iz=>(fY (a5 sb Ab nb cb) iz ij.lt J J J fun g6 _ bf _ _ e8 iy=>(bV [F0,S0] iy bf.lt J fun fp _ az dx _ bd ix=>(bV [F0,S0] ix az.lt J fun fi _ aw br _ ae eg=>(aE 1 J (sr (lo aB (ij.ext (e8.t (bd.t ae))) (a5 sa Aa na ca) J J J (lo aB (bf.ext (bd.t ae)) (a5 sb Ab nb cb) J J J ?_)))))))));have bh:ln ((x).tdiv y)≤68719476736:=a8 (jG _ _) Lx;have bi:ln ((x).tmod y)≤68719476736:=a8 (tK _ _) Lx;refine aX eg (FH eg.size (hx.ext eg) (aJ la J) (hy.ext eg) (aJ lb J) h0) J ?_;rintro _ _ ⟨_,_,_,rfl,⟨G,I,L,H,rfl,bu⟩,⟨eh,h,o,E,rfl,am⟩,rfl⟩ Y ji;refine mv 1 J (aA (O G I L H) J (aA (O eh h o E) J (aA (no 0) J (bV [F0,S0] ji (aw.ext Y).lt J fun fo _ ew fy _ W je=>(bV [F0,S0] je ew.lt J fun bg _ gi ft _ M ja=>?_)))));have aa:=(ew.ext M);refine so aB aa (a5 G I L H) ja fy J J J J fun _ bw U jb=>?_;have Z:=(gi.vN U);refine so aB Z (a5 eh h o E) jb ft J J J J fun jg ab F ag=>(aE 1 J (aD (aD ?_)));by_cases hr:x.tmod y<0
 ·obtain rfl:eh=true:=by rw [am.sgn];exact decide_eq_true hr
  refine aK 1 J (aA (wk) J (mv 1 J (pf bg 0 J (bG (cE eW ab J) J (aA (wk) J (aA (wk) J (aG (aT J (bB (aL (aD (aD ?_))))))))))));by_cases ey:y<0
  ·obtain rfl:sb=true:=by rw [hy.sgn h0];exact decide_eq_true ey
   have hq:=P5 hr ey;refine bH (pf g6 0 J (bG (cE eW (((bf.ext (bd.t (ae.t (Y.t (W.t M))))).vN U).vN F) J) J (aG (bC J (aD ?_)))));have ju:ln ((x.tdiv y)+1)≤68719476737:=a8 (eK bh (show ln (1)≤1 by decide+kernel)) yd;have jv:ln ((x.tmod y)-y)≤68719476737:=a8 (jY bi Ly) yd;refine dW cM 6 [] [Is (O G I L H),ZR w.heap.size (1),ZR w.heap.size ((x.tdiv y)+1),Is (O true h o E),Is (O true Ab nb cb),ZR w.heap.size ((x.tmod y)-y)] [[],[],[0,1],[],[],[3,4]] rfl (bY J ?_ ?_ ?_ ?_ (cG J ?_ (cG J ?_ dN))) ?_
   ·exact fun _ iq=>aC (lo aB ((bw.vN F).ext iq) (a5 G I L H) J J J (aI J))
   ·intro _ iw;have f:=ag.trans iw;refine aC (bI [no 1] f (l7 f.size yd yd) J ?_);rintro _ _ ⟨_,_,_,_,rfl,jf⟩ ir V;exact bQ J ir ⟨_,_,_,_,rfl,jf⟩
   ·intro _ fv;have f:=ag.trans fv;refine aO J (aW J ?_);rintro _ _ ⟨_,_,_,_,rfl,ef⟩ _ iu;have ef:=ef.ext iu;refine aC ?_;have jw:ln ((x.tdiv y)+1)≤68719476737:=a8 (eK bh (show ln (1)≤1 by decide+kernel)) yd;refine aX f (tV f.size ((((bu.ext (W.t M)).updT aa U).updT Z F).ext fv).zi (bu.le (aJ bh J)) ef.zi (ef.le (a8 (show ln (1)≤1 by decide+kernel) yd))) J ?_;rintro _ _ ⟨_,_,_,_,rfl,jj⟩ jc V;exact bQ J jc ⟨_,_,_,_,rfl,jj⟩
   ·exact fun _ jd=>aC (lo aB (ab.ext jd) (a5 true h o E) J J J (aI J))
   ·exact fun _ jh=>aC (lo aB ((((bf.ext (bd.t (ae.t (Y.t (W.t M))))).vN U).vN F).ext jh) (a5 true Ab nb cb) J J J (aI J))
   ·intro _ ge;have f:=ag.trans ge;refine aY J (aC ?_);have jm:ln ((x.tmod y)-y)≤68719476737:=a8 (jY bi Ly) yd;refine aX f (vT f.size ((((am.ext (W.t M)).updT aa U).updT Z F).ext ge).zi (am.le (aJ bi J)) (hy.ext f) (aJ lb J)) J ?_;rintro _ _ ⟨_,_,_,_,rfl,gx⟩ gj V;exact bQ J gj ⟨_,_,_,_,rfl,gx⟩
   intro _ dr;have f:=ag.trans dr;refine aO J (aW J ?_);rintro _ _ ⟨_,_,_,_,rfl,ei⟩ _ fm;have ei:=ei.ext fm;refine aW J ?_;rintro _ _ ⟨bj,df,du,bm,rfl,de⟩ _ ie;have de:=de.ext ie;refine aY J (aW J ?_);rintro _ _ ⟨cv,dt,dw,bp,rfl,dl⟩ _ fx;have dl:=dl.ext fx;refine aC ?_;have au:=((((az.ext (ae.t (Y.t (W.t M)))).vN U).vN F).ext dr);refine so aB au (a5 bj df du bm) f dx J J J J fun _ ez dg V=>?_;have ar:=(((((aw.ext (Y.t (W.t M))).vN U).vN F).ext dr).vN dg);refine so aB ar (a5 cv dt dw bp) V br J J J J fun _ fg ct ai=>(bS 1 J (dM (aL (bA (cI (aZ [O bj df du bm,O cv dt dw bp,I0] J ⟨⟨_,rfl,bK aB (ez.vN ct) (a5 bj df du bm) J (bq J) rfl⟩,⟨_,rfl,bK aB fg (a5 cv dt dw bp) J (bq J) rfl⟩,rfl,xl⟩ ?_))))));exact⟨_,rfl,⟨_,_,_,rfl,⟨_,_,_,_,rfl,(((de.updT au dg).updT ar ct)).cast (hq.1)⟩,⟨_,_,_,_,rfl,(((dl.updT au dg).updT ar ct)).cast (hq.2)⟩,rfl⟩,ai⟩
  obtain rfl:sb=false:=by rw [hy.sgn h0];exact decide_eq_false ey
  have hq:=P4 hr i9;refine bH (pf g6 0 J (bG (cE eW (((bf.ext (bd.t (ae.t (Y.t (W.t M))))).vN U).vN F) J) J (aG (aT J (bB (aL (aD ?_)))))));have jl:ln ((x.tdiv y)-1)≤68719476737:=a8 (jY bh (show ln (1)≤1 by decide+kernel)) yd;have jo:ln ((x.tmod y)+y)≤68719476737:=a8 (eK bi Ly) yd;refine dW cM 6 [] [Is (O G I L H),ZR w.heap.size (1),ZR w.heap.size ((x.tdiv y)-1),Is (O true h o E),Is (.agg #[F0,up Ab nb cb]),ZR w.heap.size ((x.tmod y)+y)] [[],[],[0,1],[],[],[3,4]] rfl (bY J ?_ ?_ ?_ ?_ (cG J ?_ (cG J ?_ dN))) ?_
  ·exact fun _ fk=>aC (lo aB ((bw.vN F).ext fk) (a5 G I L H) J J J (aI J))
  ·intro _ ib;have f:=ag.trans ib;refine aC (bI [no 1] f (l7 f.size yd yd) J ?_);rintro _ _ ⟨_,_,_,_,rfl,fj⟩ fw V;exact bQ J fw ⟨_,_,_,_,rfl,fj⟩
  ·intro _ en;have f:=ag.trans en;refine aO J (aW J ?_);rintro _ _ ⟨_,_,_,_,rfl,ba⟩ _ gk;have ba:=ba.ext gk;refine aC ?_;have jp:ln ((x.tdiv y)-1)≤68719476737:=a8 (jY bh (show ln (1)≤1 by decide+kernel)) yd;refine aX f (vT f.size ((((bu.ext (W.t M)).updT aa U).updT Z F).ext en).zi (bu.le (aJ bh J)) ba.zi (ba.le (a8 (show ln (1)≤1 by decide+kernel) yd))) J ?_;rintro _ _ ⟨_,_,_,_,rfl,gy⟩ fz V;exact bQ J fz ⟨_,_,_,_,rfl,gy⟩
  ·exact fun _ fq=>aC (lo aB (ab.ext fq) (a5 true h o E) J J J (aI J))
  ·exact fun _ il=>aC (lo aB ((((bf.ext (bd.t (ae.t (Y.t (W.t M))))).vN U).vN F).ext il) [F0,up Ab nb cb] J J J (aI J))
  ·intro _ em;have f:=ag.trans em;refine aY J (aC ?_);have jk:ln ((x.tmod y)+y)≤68719476737:=a8 (eK bi Ly) yd;refine bI [O true h o E,.agg #[F0,up Ab nb cb]] f (tV f.size ((((am.ext (W.t M)).updT aa U).updT Z F).ext em).zi (am.le (aJ bi J)) (hy.ext f) (aJ lb J)) J ?_;rintro _ _ ⟨_,_,_,_,rfl,ig⟩ gg V;exact bQ J gg ⟨_,_,_,_,rfl,ig⟩
  intro _ cm;have f:=ag.trans cm;refine aO J (aW J ?_);rintro _ _ ⟨_,_,_,_,rfl,el⟩ _ gb;have el:=el.ext gb;refine aW J ?_;rintro _ _ ⟨cp,ee,bo,da,rfl,dm⟩ _ ik;have dm:=dm.ext ik;refine aY J (aW J ?_);rintro _ _ ⟨cj,ch,dh,ci,rfl,dy⟩ _ gf;have dy:=dy.ext gf;refine aC ?_;have aq:=((((az.ext (ae.t (Y.t (W.t M)))).vN U).vN F).ext cm);refine so aB aq (a5 cp ee bo da) f dx J J J J fun _ fd dz V=>?_;have ak:=(((((aw.ext (Y.t (W.t M))).vN U).vN F).ext cm).vN dz);refine so aB ak (a5 cj ch dh ci) V br J J J J fun _ fa cz ai=>(bS 1 J (dM (aL (bA (aZ [O cp ee bo da,O cj ch dh ci,I0] J ⟨⟨_,rfl,bK aB (fd.vN cz) (a5 cp ee bo da) J (bq J) rfl⟩,⟨_,rfl,bK aB fa (a5 cj ch dh ci) J (bq J) rfl⟩,rfl,xl⟩ ?_)))));exact⟨_,rfl,⟨_,_,_,rfl,⟨_,_,_,_,rfl,(((dm.updT aq dz).updT ak cz)).cast (hq.1)⟩,⟨_,_,_,_,rfl,(((dy.updT aq dz).updT ak cz)).cast (hq.2)⟩,rfl⟩,ai⟩
 obtain rfl:eh=false:=by rw [am.sgn];exact decide_eq_false hr
 refine aK 1 J (aA (wk) J (mv 1 J (pf bg 0 J (bG (cE eW ab J) J (aA (we) J (aA (we) J (aG (bC J (aD (f9 [(0,O sa Aa na ca),(1,O sb Ab nb cb),(2,i5 g1 0),(3,i5 g6 0),(4,i5 fp 0),(5,i5 fi 0),(11,O sa Aa na ca),(12,O sb Ab nb cb),(13,.tuple #[O G I L H,.agg #[F0,up h o E],I0]),(10,.tuple #[O G I L H,.agg #[F0,up h o E],I0]),(14,O G I L H),(15,.agg #[F0,up h o E]),(16,no 0),(7,i5 fo 0),(8,i5 bg 0),(9,no 0),(17,no 0),(18,wk),(19,wk),(20,i5 bg 0),(21,wk),(22,we),(23,we)] (aP J) ?_))))))))));obtain⟨ej,hv,X⟩:=gH jg;have f:=ag.trans X;have ao:=((((az.ext (ae.t (Y.t (W.t M)))).vN U).vN F).ext X);obtain⟨go,fb,fh,ah,_⟩:=gP (a5 G I L H) 0 aB ao (a5 G I L H) rfl;have V:=ah.ext f dx;have aj:=(((((aw.ext (Y.t (W.t M))).vN U).vN F).ext X).vN ah);obtain⟨ia,fc,fe,av,_⟩:=gP [F0,up h o E] 0 aB aj [F0,up h o E] rfl;have ai:=av.ext V br;refine gJ cM ej [O G I L H,.agg #[F0,up h o E],I0,undef,undef,I0] [ej,go,ia] [3,4] [[],[],[],[0],[1],[2]] [(0,0),(1,0),(1,1),(2,0),(2,1),(2,2),(3,0),(4,1),(5,2)] J hv ?_ ?_
 ·exact aR J (cS J (bK aB ((bw.vN F).ext X) (a5 G I L H) J (bq J) J)) (aR J (cS J (bK aB (ab.ext X) [F0,up h o E] J (bq J) J)) (aR J (cS J (bK aB ((ab.ext X).vN ah) [F0,up h o E] J (bq J) J)) (aR J (cC J) (aR J (cC J) (aR J (cC J) (fV _ J J J J J J (fQ J J fb) (fV _ J J J J J J (fQ J J fc) (aR J (kA J) gI))))))))
 refine fU [(0,O sa Aa na ca),(1,O sb Ab nb cb),(2,i5 g1 0),(3,i5 g6 0),(4,i5 fp 0),(5,i5 fi 0),(11,O sa Aa na ca),(12,O sb Ab nb cb),(13,.tuple #[O G I L H,.agg #[F0,up h o E],I0]),(10,.tuple #[O G I L H,.agg #[F0,up h o E],I0]),(14,O G I L H),(15,.agg #[F0,up h o E]),(16,no 0),(7,i5 fo 0),(8,i5 bg 0),(9,no 0),(17,no 0),(18,wk),(19,wk),(20,i5 bg 0),(21,wk),(22,we),(23,we),(24,O G I L H),(25,.agg #[F0,up h o E]),(26,no 0),(6,no 0)] (aP J) (aL (bA (cI (aZ [O G I L H,.agg #[F0,up h o E],I0] J ⟨⟨_,rfl,bK aB (fh.vN av) (a5 G I L H) J (bq J) rfl⟩,⟨_,rfl,bK aB fe [F0,up h o E] J (bq J) rfl⟩,rfl,xl⟩ ?_))));exact⟨_,rfl,⟨_,_,_,rfl,⟨_,_,_,_,rfl,(((((((bu.ext (W.t M)).updT aa U).updT Z F).ext X).updT ao ah).updT aj av)).cast ((FT).1)⟩,⟨_,_,_,_,rfl,(((((((am.ext (W.t M)).updT aa U).updT Z F).ext X).updT ao ah).updT aj av)).cast ((FT).2)⟩,rfl⟩,ai⟩
theorem a0X {nb:Nat}(hb:b≤w.heap.size)(hx:Zi w sa Aa na ca x)(la:na≤68719476736)(hy:Zi w sb Ab nb cb y)(lb:nb≤68719476736)(h0:y≠0):aQ aM 118 #[O sa Aa na ca,O sb Ab nb cb] w (Gv w (T3 (ZR b (x/y)) (ZR b (x%y)) (Is (no 0)))):=(a0W hx la hy lb h0).mono (Gv.imp (T3.imp (ZR.imp hb) (ZR.imp hb) Is.imp))
theorem Zi.sg_ (h:Zi w s A n c z):sg s z.natAbs=z:=by
 obtain⟨xs,h1,rfl⟩:=h;rw [mY]
theorem a0a (x y:Int):ln (x/y)≤ln x+1:=by
 by_cases h:x.tmod y<0
 ·rcases Int.lt_trichotomy y 0 with f | f | f
  ·rw [←(P5 h f).1]
   exact a8 (eK (jG x y) (aU _)) (by
    have h1:x≠0:=fun e=>by subst e;simp at h
    have h2:ln 1=1:=MV
    have o:0<ln x:=by
     refine Nat.pos_of_ne_zero fun e=>h1 ?_
     have:=oA.1 (show (wd x.natAbs).length=0 from e)
     omega
    omega)
  ·subst f;simp [ZT]
  rw [←(P4 h f).1]
  exact a8 (jY (jG x y) (aU _)) (by
   have h1:x≠0:=fun e=>by subst e;simp at h
   have h2:ln 1=1:=MV
   have o:0<ln x:=by
    refine Nat.pos_of_ne_zero fun e=>h1 ?_
    have:=oA.1 (show (wd x.natAbs).length=0 from e)
    omega
   omega)
 rw [←(FT).1];exact a8 (jG x y) (Nat.le_succ _)
theorem tL (h:y≠0:=by omega):ln (x%y)≤ln y:=by
 refine fR ?_;have h1:=kS x h;have h2:=Int.emod_lt x h;omega
theorem a0T {nb:Nat}(hx:Zi w sa Aa na ca x)(la:na≤68719476736)(hy:Zi w sb Ab nb cb y)(lb:nb≤68719476736)(h0:y≠0):aQ aM 87 #[O sa Aa na ca,O sb Ab nb cb] w (Gv w (T2 (ZR w.heap.size (x%y)) (Is (no 0)))):=by
 have Lx:=bP hx la;have Ly:=bP hy lb;refine bU Tryz.func87 18 J (sr (bx (a5 sa Aa na ca) bN J J J fun _ _ aj _ _ bh=>(fY (a5 sb Ab nb cb) bh aj.lt J J J fun _ _ ag _ _ e8 bd=>(bV [F0,S0] bd ag.lt J fun _ _ H X _ Z G=>(aE 1 J (sr (lo aB (aj.ext (e8.t Z)) (a5 sa Aa na ca) J J J (lo aB (ag.ext Z) (a5 sb Ab nb cb) J J J ?_))))))));have bo:ln (x/y)≤68719476737:=a8 (a0a _ _) (Nat.succ_le_succ Lx);have bp:ln (x%y)≤68719476736:=a8 (tL (h:=h0)) Ly;refine aX G (a0X G.size (hx.ext G) (aJ la J) (hy.ext G) (aJ lb J) h0) J ?_;rintro _ _ ⟨_,_,_,rfl,⟨aq,Y,ai,am,rfl,_⟩,⟨E,o,f,F,rfl,bf⟩,rfl⟩ ab bg;refine mv 1 J (aA (O aq Y ai am) J (aA (O E o f F) J (aA (no 0) J (bV [F0,S0] bg (H.ext ab).lt J fun _ _ I aa _ au ba=>(bV [F0,S0] ba I.lt J fun _ _ ar ae _ W av=>?_)))));have M:=(I.ext W);refine so aB M (a5 aq Y ai am) av aa J J J J fun _ _ V bj=>?_;have U:=(ar.vN V);refine so aB U (a5 E o f F) bj ae J J J J fun _ ao ak aw=>(aE 1 J (sr (lo aB ao (a5 E o f F) J J J (mv 1 J ?_))));have L:=(((H.ext (ab.t (au.t W))).vN V).vN ak);refine so aB L (a5 E o f F) aw X J J J J fun _ ah az bi=>(aE 1 J (bA (aZ [O E o f F,I0] J ⟨⟨_,rfl,bK aB ah (a5 E o f F) J (bq J) rfl⟩,rfl,xl⟩ ?_)));exact⟨_,rfl,⟨_,_,rfl,⟨_,_,_,_,rfl,((((bf.ext (au.t W)).updT M V).updT U ak).updT L az)⟩,rfl⟩,bi⟩
theorem a0U {nb:Nat}(hb:b≤w.heap.size)(hx:Zi w sa Aa na ca x)(la:na≤68719476736)(hy:Zi w sb Ab nb cb y)(lb:nb≤68719476736)(h0:y≠0):aQ aM 87 #[O sa Aa na ca,O sb Ab nb cb] w (Gv w (T2 (ZR b (x%y)) (Is (no 0)))):=(a0T hx la hy lb h0).mono (Gv.imp (T2.imp (ZR.imp hb) Is.imp))
theorem a0V {nb:Nat}(hx:Zi w sa Aa na ca x)(la:na≤68719476736)(hy:Zi w sb Ab nb cb y)(lb:nb≤68719476736)(h0:y≠0)(hd:x.natAbs%y.natAbs=0):aQ aM 52 #[O sa Aa na ca,O sb Ab nb cb] w (Gv w (T2 (ZR w.heap.size (x.tdiv y)) (Is (no 0)))):=by
 have Lx:=bP hx la;have Ly:=bP hy lb;refine bU Tryz.func52 27 J (sr (bx (a5 sa Aa na ca) bN J J J fun g1 _ H _ _ am=>(fY (a5 sb Ab nb cb) am H.lt J J J fun g6 _ F _ _ e8 aj=>(bV [F0,S0] aj F.lt J fun _ _ W U _ f h=>(aE 1 J (sr (pf g1 1 J (bG (cE dY (H.ext (e8.t f)) J) J (pf g6 1 J (bG (cE dY (F.ext f) J) J ?_))))))))));have L1:(wd (x.natAbs/y.natAbs)).length≤68719476736:=a8 (iP (gN _ _)) Lx;refine bI [up Aa na ca,up Ab nb cb] h (a1u h.size (hx.ext h).wi (aJ la J) (hy.ext h).wi (aJ lb J) i9 hd) J ?_;rintro _ _ ⟨_,_,rfl,⟨X,Z,Y,rfl,ag,ab⟩,rfl⟩ E ak;refine mv 1 J (aA (up X Z Y) J (aA (no 0) J (aE 2 J (aD (aV 1 J (aA (wk) J (aG (aT J (bB (aL (aD ?_)))))))))));refine bH (pf g1 0 J (bG (cE eW (H.ext (e8.t (f.t E))) J) J (pf g6 0 J (bG (cE eW (F.ext (f.t E)) J) J (aA (.bool (!(sa==sb))) J (mv 1 J ?_))))));have aw:ln (sg (!(sa==sb)) (Int.natAbs x/Int.natAbs y))≤68719476736:=(show (wd (sg _ _).natAbs).length≤_ by rw [mY];exact L1);refine bI [.bool (!(sa==sb)),up X Z Y] ak (a0S ag ab) J ?_;rintro _ _ ⟨M,G,I,L,rfl,ao⟩ ai ah;have o:=(W.ext (E.t ai));refine so aB o (a5 M G I L) ah U J J J J fun _ V ae aa=>(aE 1 J (bA (aZ [O M G I L,I0] J ⟨⟨_,rfl,bK aB V (a5 M G I L) J (bq J) rfl⟩,rfl,xl⟩ ?_)));exact⟨_,rfl,⟨_,_,rfl,⟨_,_,_,_,rfl,((ao.updT o ae)).cast (by rw [show (!(sa==sb))=(sa != sb) from rfl,DP,hx.sg_,hy.sg_])⟩,rfl⟩,aa⟩
theorem BI {nb:Nat}(hb:b≤w.heap.size)(hx:Zi w sa Aa na ca x)(la:na≤68719476736)(hy:Zi w sb Ab nb cb y)(lb:nb≤68719476736)(h0:y≠0)(hd:x.natAbs%y.natAbs=0):aQ aM 52 #[O sa Aa na ca,O sb Ab nb cb] w (Gv w (T2 (ZR b (x.tdiv y)) (Is (no 0)))):=(a0V hx la hy lb h0 hd).mono (Gv.imp (T2.imp (ZR.imp hb) Is.imp))
structure ZC where
 s:Bool
 A:Option a7
 n:Nat
 c:Nat
theorem nC (x y:Int):ln (Int.gcd x y:Int)≤max (ln x) (ln y):=by
 by_cases h:x=0
 ·subst h;rw [Int.gcd_zero_left];refine a8 (fR (x:=(y.natAbs:Int)) (y:=y) ym) (Nat.le_max_right _ _)
 refine a8 (fR (y:=x) ?_) (Nat.le_max_left _ _);rw [Int.natAbs_natCast];exact Nat.le_of_dvd i9 (Int.gcd_dvd_natAbs_left x y)
theorem Z4 {a b c:Int}(h:a*b≤0)(hc:0≤c):(a-c*b).natAbs=a.natAbs+c.natAbs*b.natAbs:=by
 rw [←Int.natAbs_mul]
 have h2:a*(c*b)≤0:=by
  have:a*(c*b)=c*(a*b):=by grind
  rw [this]
  exact Int.mul_nonpos_of_nonneg_of_nonpos hc h
 rcases Int.lt_trichotomy a 0 with f | f | f
 ·have:0≤c*b:=by
   refine Int.le_of_not_gt fun hl=>?_
   have:=Int.mul_pos_of_neg_of_neg f hl
   omega
  omega
 ·subst f;simp
 have:c*b≤0:=by
  refine Int.le_of_not_gt fun hl=>?_
  have:=Int.mul_pos f hl
  omega
 omega
theorem JP (x y:Int): -9223372036854775808≤bM x y∧bM x y≤9223372036854775807:=by have:=JQ x y;omega
theorem fI:Tryz.prog.underlying 27=some (.slice 24):=by kernel_rfl
theorem tP:(Tryz.prog.info? 24).map (fun i=>(i.zero,i.size,i.bytes))=some (some (O false none 0 0),2,32):=by kernel_rfl
def ZC.zero:ZC:=⟨false,none,0,0⟩
def nP (e:ZC):List aF:= (a5 e.s e.A e.n e.c)
def jN:List ZC→List aF
 | []=> []
 | e::r=> .bool e.s:: .slice e.A e.n e.c::jN r
theorem CZ:∀es:List ZC,(jN es).length=es.length*2
 | []=>rfl
 | e::r=>by simp only [jN,fO,CZ r];omega
theorem D0:∀(es fs:List ZC),jN (es++fs)=jN es++jN fs
 | [],fs=>rfl
 | e::r,fs=>by simp only [jN,wR,D0 r fs]
theorem zD:∀(es:List ZC) (i:Nat),i<es.length→(jN es)[i*2]?=some (.bool (es.getD i ZC.zero).s)
 | [],i,h=>by simp at h
 | e::r,0,h=>rfl
 | e::r,i+1,h=>by
  have:=zD r i (by simpa using h)
  simpa [jN,eE] using this
theorem zC:∀(es:List ZC) (i:Nat),i<es.length→(jN es)[i*2+1]?=some (.slice (es.getD i ZC.zero).A (es.getD i ZC.zero).n (es.getD i ZC.zero).c)
 | [],i,h=>by simp at h
 | e::r,0,h=>rfl
 | e::r,i+1,h=>by
  have:=zC r i (by simpa using h)
  simpa [jN,eE] using this
theorem HU:∀(es:List ZC) (i:Nat) (e:ZC),i<es.length→jP (jN es) (i*2) (nP e)=jN (es.set i e)
 | [],i,e,h=>by simp at h
 | a::r,0,e,h=>by simp [jN,jP,nP]
 | a::r,i+1,e,h=>by
  have:=HU r i e (by simpa using h)
  simp only [jP,nP,fO,List.length_nil] at this⊢
  rw [show (i+1)*2=i*2+1+1 by omega,show i*2+1+1+(0+1+1)=i*2+(0+1+1)+1+1 by omega]
  simp only [jN,List.take_succ_cons,List.drop_succ_cons,wR,List.set_cons_succ,this]
theorem Zl.at (h:Zl w A n cap zs ms)(hi:i<n):∃p s B c,A.map (·.add (i*2))=some p∧(∀w',Ext w w'→∀(P:cO) (T:aS),AggT P T 2→(loadVar T p).run P w'= .ok (.agg #[.bool s,up B (ms.getD i 0) c]) w')∧Zi w s B (ms.getD i 0) c (zs.getD i 0):=by
 obtain⟨a,s,B,c,rfl,h1,h2,E⟩:=h.get i hi;refine⟨a.add (i*2),s,B,c,rfl,fun w' e P T f=>tJ f [.bool s,up B (ms.getD i 0) c] J (fun j o=>?_),E⟩;rw [oY]
 match j,o with
 | 0,_=>exact e.cell h1
 | 1,_=>exact e.cell h2
theorem Zr.updOT (h:Zr w b s A n cap z)(ho:Own w b' T s' B m c us)(x:UpdO B w w')(hT:43≠T:=by decide):Zr w' b s A n cap z:=
 ⟨h.sgn,h.len,h.own.updOT ho hT x⟩
def Zo (w:a6)(b:Nat)(s:Bool)(A:Option a7)(n cap:Nat)(z:Int):Prop:=∃xs,Own w b 43 1 A n cap (xs.map bF)∧Wf xs∧sg s (nv xs)=z
section
variable {w w':a6}{b:Nat}{s:Bool}{A:Option a7}{n cap:Nat}{z:Int}
theorem Zo.zi (h:Zo w b s A n cap z):Zi w s A n cap z:=by obtain⟨xs,h1,h2,f⟩:=h;exact⟨xs,h1.rd h2,f⟩
theorem Zo.ext (h:Zo w b s A n cap z)(x:Ext w w'):Zo w' b s A n cap z:=by obtain⟨xs,h1,h2⟩:=h;exact⟨xs,h1.ext x,h2⟩
theorem Zo.mono (h:Zo w b s A n cap z)(x:b'≤b):Zo w b' s A n cap z:=by obtain⟨xs,h1,h2⟩:=h;exact⟨xs,h1.mono x,h2⟩
theorem Zo.updT (h:Zo w b s A n cap z)(hb:Bk w g T us)(x:Upd g w w')(hT:43≠T:=by decide):Zo w' b s A n cap z:=by obtain⟨xs,h1,h2⟩:=h;exact⟨xs,h1.updT hb hT x,h2⟩
theorem Zo.updOT (h:Zo w b s A n cap z)(ho:Own w b' T s' B m c us)(x:UpdO B w w')(hT:43≠T:=by decide):Zo w' b s A n cap z:=by obtain⟨xs,h1,h2⟩:=h;exact⟨xs,h1.updOT ho hT x,h2⟩
end
def El (m:Option a6)(b:Nat)(w:a6)(e:ZC)(z:Int):Prop:=Zr w b e.s e.A e.n e.c z∨∃w0,m=some w0∧(Zi w0 e.s e.A e.n e.c z∨Zo w b e.s e.A e.n e.c z)
theorem El.ext {m:Option a6}{e:ZC}(h:El m b w e z)(x:Ext w w'):El m b w' e z:=h.imp (·.ext x) (fun⟨w0,h1,h2⟩=>⟨w0,h1,h2.imp id (·.ext x)⟩)
theorem El.updT {m:Option a6}{e:ZC}(h:El m b w e z)(hb:Bk w g T us)(x:Upd g w w')(hT:43≠T:=by decide):El m b w' e z:=h.imp (·.updT hb x hT) (fun⟨w0,h1,h2⟩=>⟨w0,h1,h2.imp id (·.updT hb x hT)⟩)
theorem El.mono {m:Option a6}{e:ZC}(h:El m b w e z)(x:b'≤b):El m b' w e z:=h.imp (·.mono x) (fun⟨w0,h1,h2⟩=>⟨w0,h1,h2.imp id (·.mono x)⟩)
theorem El.updOT {m:Option a6}{e:ZC}(h:El m b w e z)(ho:Own w b' T s' B n c us)(x:UpdO B w w')(hT:43≠T:=by decide):El m b w' e z:=h.imp (·.updOT ho x hT) (fun⟨w0,h1,h2⟩=>⟨w0,h1,h2.imp id (·.updOT ho x hT)⟩)
theorem El.zi {e:ZC}(h:El (some w0) b w e z)(x:Ext w0 w):Zi w e.s e.A e.n e.c z:=by
 rcases h with h | ⟨w1,h1,h2⟩
 ·exact h.zi
 cases h1;exact h2.elim (·.ext x) (·.zi)
theorem El.zr {e:ZC}(h:El none b w e z):Zr w b e.s e.A e.n e.c z:=by
 rcases h with h | ⟨w1,h1,h2⟩
 ·exact h
 cases h1
def Lz (m:Option a6)(K b:Nat)(w:a6)(lb:Nat)(A:Option a7)(n cap:Nat)(zs:List Int):Prop:=
 ∃es,Own w lb 24 2 A n cap (jN es)∧es.length=n∧zs.length=n∧∀i,i<n→(es.getD i ZC.zero).n≤K∧El m b w (es.getD i ZC.zero) (zs.getD i 0)
section
variable {m:Option a6}{K b lb:Nat}{w w':a6}{A:Option a7}{n cap:Nat}{zs:List Int}
theorem Lz.own (h:Lz m K b w lb A n cap zs):∃vs,Own w lb 24 2 A n cap vs:=by obtain⟨es,h1,_⟩:=h;exact⟨_,h1⟩
theorem Lz.block (h:Lz m K b w lb A n cap zs):∀a,A=some a→lb≤a.block∧a.block<w.heap.size:=by obtain⟨vs,h⟩:=h.own;exact h.block
theorem Lz.len (h:Lz m K b w lb A n cap zs):zs.length=n:=by obtain⟨es,h1,h2,f,_⟩:=h;exact f
theorem Lz.ext (h:Lz m K b w lb A n cap zs)(x:Ext w w'):Lz m K b w' lb A n cap zs:=by
 obtain⟨es,h1,h2,o,f⟩:=h;exact⟨es,h1.ext x,h2,o,fun i hi=>⟨(f i hi).1,(f i hi).2.ext x⟩⟩
theorem Lz.updT (h:Lz m K b w lb A n cap zs)(hb:Bk w g T us)(x:Upd g w w')(hne:∀p,A=some p→p.block≠g)(hT:43≠T:=by decide):Lz m K b w' lb A n cap zs:=by
 obtain⟨es,h1,h2,o,f⟩:=h;exact⟨es,h1.upd x hne,h2,o,fun i hi=>⟨(f i hi).1,(f i hi).2.updT hb x hT⟩⟩
theorem Lz.nil (m:Option a6)(K b:Nat)(w:a6)(lb:Nat):Lz m K b w lb none 0 0 []:=⟨[],Own.nil _ _ _ _,rfl,rfl,fun i hi=>by omega⟩
theorem Lz.mono {K' lb':Nat}(h:Lz m K b w lb A n cap zs)(hK:K≤K')(hb:b'≤b)(hl:lb'≤lb):Lz m K' b' w lb' A n cap zs:=by
 obtain⟨es,h1,h2,o,f⟩:=h;exact⟨es,h1.mono hl,h2,o,fun i hi=>⟨a8 (f i hi).1 hK,(f i hi).2.mono hb⟩⟩
theorem Lz.at (h:Lz m K b w lb A n cap zs)(hi:i<n):∃p s B k c,A.map (·.add (i*2))=some p∧(∀w',Ext w w'→∀(P:cO) (T:aS),AggT P T 2→(loadVar T p).run P w'= .ok (O s B k c) w')∧k≤K∧El m b w ⟨s,B,k,c⟩ (zs.getD i 0):=by
 obtain⟨es,h1,h2,_,f⟩:=h;obtain⟨a,o,hc⟩:=h1.rv.get (i*2) i9;obtain⟨a',ha',hc'⟩:=h1.rv.get (i*2+1) i9;rw [o] at ha';cases ha';have E:=zD es i i9;have H:=zC es i i9;rw [bL,E] at hc;rw [bL,H] at hc';refine⟨a.add (i*2),_,_,_,_,by rw [o];rfl,fun w' e P T F=>tJ F [.bool (es.getD i ZC.zero).s,.slice (es.getD i ZC.zero).A (es.getD i ZC.zero).n (es.getD i ZC.zero).c] J (fun j G=>?_),(f i hi).1,(f i hi).2⟩;rw [oY]
 match j,G with
 | 0,_=>exact e.cell hc
 | 1,_=>exact e.cell hc'
theorem Lz.zl (h:Lz (some w0) K b w lb A n cap zs)(x:Ext w0 w):∃ms,Zl w A n cap zs ms∧∀i,ms.getD i 0≤K:=by
 obtain⟨es,h1,h2,H,o⟩:=h
 have f:∀i,i<n→(es.map (·.n)).getD i 0=(es.getD i ZC.zero).n:=fun i hi=>by
  simp [bL,jM,cT (show i<es.length by omega)]
 refine⟨es.map (·.n),⟨H,by rw [List.length_map,h2],h1.rv.le,h1.rv.max,fun i hi=>?_⟩,fun i=>?_⟩
 ·obtain⟨a,E,hc⟩:=h1.rv.get (i*2) i9;obtain⟨a',ha',hc'⟩:=h1.rv.get (i*2+1) i9;rw [E] at ha';cases ha';have G:=zD es i i9;have F:=zC es i i9;rw [bL,G] at hc;rw [bL,F] at hc';rw [f i hi];exact⟨a,_,_,_,E,hc,hc',(o i hi).2.zi x⟩
 by_cases hi:i<n
 ·rw [f i hi];exact (o i hi).1
 rw [bL,jT (by rw [List.length_map];omega)];exact bX _
theorem y8 {α:Type}{l r:List α}{d:α}(h:i<l.length:=by omega):(l++r).getD i d=l.getD i d:=by
 rw [bL,bL,List.getElem?_append_left h]
theorem y7 {α:Type}{l r:List α}{a d:α}:(l++a::r).getD l.length d=a:=by
 rw [bL,List.getElem?_append_right (aU _),Nat.sub_self];rfl
end
theorem pU (h:Kept w A A')(hg:g<w.heap.size)(hne:∀p,A=some p→p.block≠g):∀p,A'=some p→p.block≠g:=fun p o=>by
 rcases h p o with⟨a,f,e⟩ | e
 ·rw [e];exact hne a f
 ·omega
section
variable {Q:dX→Act→a6→Prop}{N:Nat}{l:Fr}{w:a6}{ops:Array bE}{rest:List bE}{d:Nat}{ty:aS}{pos:String}{af:Array fL}{gd:Option (Nat×Bool)}
theorem SK {m:Option a6}{x y:cR}{e:ZC}(hw:dD ops l gd=some true)(hx:cB l x=some (up A n cap))(hy:cB l y=some (up (some ⟨g,0,none⟩) 1 c))(h:Lz m K b w lb A n cap zs)(hlb:lb≤w.heap.size)(hb:Bk w g 24 (nP e))(he:El m b w e z)(hK:e.n≤K)(hm:n≤1099511627775)(hd:d<N)(k:∀A' cap' w',Lz m K b w' lb A' (n+1) cap' (zs++ [z])→UpdO A w w'→Kept w A A'→wl aM ops Q N rest ((d,up A' (n+1) cap')::l) w'):wl aM ops Q N (⟨some d,.call {callee:= .builtin .append,args:= #[x,y],argTypes:= #[27,27]},ty,pos,af,gd⟩::rest) l w:=by
 obtain⟨es,h1,h2,H,F⟩:=h;refine nR hw hx hy fI tP J h1 hlb (nP e) J (fun j u G=>?_) J (hn:=hd) fun A' cap' w' L E V=>k A' cap' w' ?_ E V
 ·have o:j<(nP e).length:=(gU.1 G).1;rw [jI,eR,hb.cell o,bL,G];rfl
 refine⟨es++ [e],by rw [D0];exact L,by simp [h2],by simp [H],fun i hi=>?_⟩;by_cases f:i<n
 ·rw [y8,y8];exact⟨(F i f).1,(F i f).2.updOT h1 E⟩
 have M:i=n:=by omega
 subst M;have U:(es++ [e]).getD i ZC.zero=e:=by rw [←h2];exact y7
 have I:(zs++ [z]).getD i 0=z:=by rw [←H];exact y7
 rw [U,I];exact⟨hK,he.updOT h1 E⟩
theorem S2 {m:Option a6}{x y:cR}{p:a7}{e:ZC}(hw:dD ops l gd=some true)(hx:cB l x=some (.pointer (some p)))(hy:cB l y=some (O e.s e.A e.n e.c))(hp:A.map (·.add (i*2))=some p)(hi:i<n)(h:Lz m K b w lb A n cap zs)(he:El m b w e z)(hK:e.n≤K)(k:∀w',Lz m K b w' lb A n cap (zs.set i z)→UpdO A w w'→wl aM ops Q N rest l w'):wl aM ops Q N (⟨none,.store 24 x y,ty,pos,af,gd⟩::rest) l w:=by
 obtain⟨es,h1,h2,U,M⟩:=h;have h1':=h1;rcases h1 with⟨rfl,_⟩ | ⟨g,cs,rfl,hg,X,hn,E,_,W⟩
 ·cases hp
 have hp':p=⟨g,i*2,none⟩:=by
  injection hp with hp
  rw [←hp]
  show (⟨g,0,none⟩:a7).add (i*2)=_
  rw [jI,eR]
 subst hp';have V:=fC 2 hn;refine D3 hw hx (us:=nP e) hy aB J X i9 J _ J fun w' F I hs=>k w' ⟨es.set i e,cN ⟨g,_,rfl,hg,F,hn,E,?_,?_⟩,by simp [h2],by simp [U],fun j o=>?_⟩ I.updO
 ·unfold jP;simp only [f8,eB,iK,nP,fO,List.length_nil];omega
 ·rw [←HU es i e i9,←W];have Y:i*2+2≤n*2:=by omega
  have L:(nP e).length=2:=rfl;unfold jP;rw [L,List.take_append,List.take_append,List.take_take,List.take_take,f8,eB,iJ (by omega:i*2≤cs.length),L,Nat.min_eq_right i9,iJ i9];congr 1
  ·congr 1;exact List.take_of_length_le (by rw [L];omega)
  rw [List.drop_take]
 by_cases f:j=i
 ·subst f;have G:(es.set j e).getD j ZC.zero=e:=by simp [bL,h2,o]
  have H:(zs.set j z).getD j 0=z:=by simp [bL,U,o]
  rw [G,H];exact⟨hK,he.updOT h1' I.updO⟩
 have G:(es.set i e).getD j ZC.zero=es.getD j ZC.zero:=by simp [bL,mP f]
 have H:(zs.set i z).getD j 0=zs.getD j 0:=by simp [bL,mP f]
 rw [G,H];exact⟨(M j o).1,(M j o).2.updOT h1' I.updO⟩
end
theorem zH {Q:dX→Act→a6→Prop}{l:Fr}{x y:cR}{k:j7}{a b:Int}(hw:dD ops l gd=some true)(hx:cB l x=some (.int k a))(hy:cB l y=some (.int k b))(c:Int)(h:wl P ops Q n rest ((d,.int k c)::l) w)(hc:max a b=c:=by omega)(hn:d<n:=by decide):wl P ops Q n (⟨some d,.call {callee:= .builtin .max,args:= #[x,y],argTypes:=ts},ty,pos,af,gd⟩::rest) l w:=by
 refine gO hw hn (fun a' f=>?_) h;have e:(if b>a then b else a)=c:=by rw [←hc];split <;> omega
 unfold execOp;simp only [resolve,invoke,builtin,cV,iH,fK,pE,jS,kR,f.ev hx,f.ev hy,Builtin.max_,List.foldlM,Builtin.max2,e]
theorem IB {Q:dX→Act→a6→Prop}{l:Fr}{x y:cR}{k:j7}{a b:Int}(hw:dD ops l gd=some true)(hx:cB l x=some (.int k a))(hy:cB l y=some (.int k b))(c:Int)(hc:min a b=c)(hn:d<n)(h:wl P ops Q n rest ((d,.int k c)::l) w):wl P ops Q n (⟨some d,.call {callee:= .builtin .min,args:= #[x,y],argTypes:=ts},ty,pos,af,gd⟩::rest) l w:=by
 refine gO hw hn (fun a' f=>?_) h;have e:(if b<a then b else a)=c:=by rw [←hc];split <;> omega
 unfold execOp;simp only [resolve,invoke,builtin,cV,iH,fK,pE,jS,kR,f.ev hx,f.ev hy,Builtin.min_,List.foldlM,Builtin.min2,e]
theorem JY (hx:Wi w A n c m)(hl:n≤1099511627775):aQ aM 90 #[up A n c] w (Gv w (Is (no (dR m:Nat)))):=by
 obtain⟨xs,h1,rfl⟩:=hx;refine (B5 h1 hl).mono fun e w' h=>?_;obtain⟨k,h2,rfl,f⟩:=h;exact⟨_,rfl,(show eL .i64 (k:Int)=_ by rw [h2.out]),f⟩
theorem VK {v:Nat}(hx:Wi w A n c m)(hl:n≤1099511627775)(hv0:v≠0)(hvb:v≤18446744073709551615):aQ aM 148 #[up A n c,t9 (v:Int)] w (Gv w (T3 (WR w.heap.size (m/v)) (Is (t9 (m%v:Nat))) (Is (no 0)))):=by
 obtain⟨xs,h1,rfl⟩:=hx;refine (FV h1 hl hv0 hvb).mono fun e w' h=>?_;obtain⟨A,n,cap,r',rfl,h2,_,f,_,o,E⟩:=h;exact⟨_,rfl,⟨_,_,_,rfl,⟨A,n,cap,rfl,f.out,o⟩,(show eL .u64 (r':Int)=_ by rw [h2.out]),rfl⟩,E⟩
def lO (b k at_:Nat):List Nat→List Nat
 | []=> []
 | [x]=>fG (db b x) at_
 | x::y::r=>fG (db b x) k++lO b k at_ (y::r)
theorem G7 {x:Nat}{r:List Nat}:lO b k a (x::r)=fG (db b x) (if r= [] then a else k)++lO b k a r:=by
 cases r with
 | nil=>simp [lO]
 | cons y r=>simp [lO]
theorem xI (h:k≤l.length):fG l k=l:=by rw [fG,Nat.sub_eq_zero_of_le h];simp
theorem LJ {r:List Nat}:l++fG r k=fG (l++r) (l.length+k):=by
 unfold fG;rw [List.append_assoc,f8];congr 2;congr 1;omega
theorem C0 (hb:2≤b)(hq:m/b^k≠0):db b m=fG (db b (m%b^k)) k++db b (m/b^k):=by
 have E:0<b^k:=iI i9;have hl:(db b (m%b^k)).length≤k:=lY hb (g7 _ E);have f:(fG (db b (m%b^k)) k).length=k:=by rw [tM];omega
 have hn:nb b (fG (db b (m%b^k)) k)=m%b^k:=by rw [fG,Z1,iS hb]
 have G:nb b (fG (db b (m%b^k)) k++db b (m/b^k))=m:=by
  rw [xR,hn,f,iS hb,kF]
 have F:Wfb b (fG (db b (m%b^k)) k++db b (m/b^k)):=CC (CC (lQ hb _) (fun x hx=>by rw [List.eq_of_mem_replicate hx];omega)) (lQ hb _);have ht:=BX hb (m/b^k);have o:(db b (m/b^k)).length≠0:=fun e=>hq ((tN hb).1 e)
 have key:=G0 hb F (cN (by
  rw [f8,f,bL,List.getElem?_append_right (by rw [f];omega),f,show k+(db b (m/b^k)).length-1-k=(db b (m/b^k)).length-1 by omega,←bL]
  rcases ht with h | h
  ·exact absurd h o
  ·exact h))
 rw [G] at key;exact key
theorem a3k (hb:2≤b)(_hk:1≤k)(hu:2≤b^k):∀(n m:Nat),m≤n→m≠0→lO b k a (db (b^k) m)=fG (db b m) (((db (b^k) m).length-1)*k+a):=by
 intro n
 induction n with
 | zero=>intro m hm h0;omega
 | succ n ih=>
  intro m hm h0
  have e:=nG hu h0
  rw [e,G7]
  by_cases hq:m/b^k=0
  ·have e2:db (b^k) (m/b^k)= []:=by rw [hq];rfl
   have e3:m%b^k=m:=iW ((Nat.div_eq_zero_iff_lt i9).1 hq)
   rw [e2,if_pos rfl,e3]
   simp [lO]
  ·have hne:db (b^k) (m/b^k)≠ []:=fun e=>hq ((G1 hu).1 e)
   rw [if_neg hne,ih (m/b^k) (by have:=m0 (show 0<m by omega) (show 1<b^k by omega);omega) hq]
   rw [LJ,←C0 hb hq]
   congr 1
   have hl:(db b (m%b^k)).length≤k:=lY hb (g7 _ i9)
   have hp:0<(db (b^k) (m/b^k)).length:=List.length_pos_iff.2 hne
   rw [tM,fO,Nat.max_eq_right hl]
   obtain⟨p,hp'⟩:∃p,(db (b^k) (m/b^k)).length=p+1:=⟨_,(Nat.succ_pred_eq_of_pos hp).symm⟩
   rw [hp']
   simp only [oF,eE]
   omega
theorem a0g (hb:2≤b)(hu:2≤b^k)(h0:m≠0):((db (b^k) m).length-1)*k<(db b m).length:=by
 have h1:=LH hu h0;rw [←Nat.pow_mul,dH] at h1;refine pC fun h=>?_;have h2:=EZ hb m;have f:=fZ (show 0<b by omega) h;omega
theorem YA {pl:Nat}(hb:2≤b)(hk:1≤k)(hu:2≤b^k)(hpl:(db (b^k) m).length=pl):dF (width-pl*k) 48++eT (lO b k (min (width+k-pl*k) k) (db (b^k) m))=eT (fG (db b m) width):=by
 by_cases h0:m=0
 ·subst h0;have e:pl=0:=by rw [←hpl];rfl
  subst e;rw [lC,lC];simp [lO,eT,fG,JH]
 have o:1≤pl:=by
  have:(db (b^k) m).length≠0:=fun e=>h0 ((tN hu).1 e)
  omega
 have f:=a0g hb hu h0;rw [a3k hb hk hu m m (aU _) h0,hpl];rw [hpl] at f;obtain⟨q,rfl⟩:∃q,pl=q+1:=⟨pl-1,by omega⟩
 have h:(db b m).length≤(q+1)*k:=by
  refine lY hb ?_
  have:=EZ hu m
  rw [hpl,←Nat.pow_mul,dH] at this
  exact this
 rw [eE,Nat.one_mul] at h;rw [oF] at f;rw [oF,eE,Nat.one_mul];rw [DE,DE,←List.append_assoc,List.replicate_append_replicate];congr 2;generalize q*k=qk at*;omega
theorem vC (v:aF)(h:Bk w g T [v]):∀j u,[v][j]?=some u→w.cell? ((⟨g,0,none⟩:a7).add j)=some u:=by
 intro j u o;have f:=(gU.1 o).1;rw [jI,eR,h.cell f,bL,o];rfl
theorem vM (hb:2≤b)(h:(wd m).length≤n):(db b m).length≤64*n:=by
 refine lY hb ?_;have h1:=nZ m;rw [nJ,←Nat.pow_mul] at h1;exact dA h1 (a8 (fZ yd (gT _ h)) (Nat.pow_le_pow_left hb _))
theorem Kept.refl (w:a6)(A:Option a7):Kept w A A:=fun p f=>cJ ⟨p,f,rfl⟩
theorem Kept.next {v:a6}(h:Kept w A B)(k:Kept v B C)(hs:w.heap.size≤v.heap.size):Kept w A C:=fun p o=>by
 rcases k p o with⟨q,E,e⟩ | e
 ·rcases h q E with⟨r,hr,f⟩ | f
  ·exact cJ ⟨r,hr,by rw [e,f]⟩
  ·exact cN i9
 ·exact cN (a8 hs e)
theorem a0r (h:Own w lb 5 1 A n c us)(k:Kept w A B):∀(p:a7) (cs:Array aF) (t:aS) (fr:Nat×Nat),B=some p→w.heap[p.block]?=some (.cells cs t fr)→t=5:=fun p cs t fr o h'=>by
 rcases k p o with⟨q,f,e⟩ | e
 ·rw [e] at h';exact LK h q cs t fr f h'
 ·exact absurd h' (GG e)
theorem WJ {z:Nat}:(bs++dF (z+1) 48).map B8=(bs++dF z 48).map B8++ [.int .u8 48]:=by
 rw [List.replicate_succ',←List.append_assoc,List.map_append];rfl
theorem qJ (h:Own w b T 1 A n c (l.map B8)):n=l.length:=by have:=h.rv.len;rw [List.length_map,eH] at this;exact this.symm
theorem BV (h:q<l.length):l.drop q=l.getD q 0::l.drop (q+1):=by rw [pF h,bL,cT h];rfl
theorem JT {pc:Nat}(hS:Signs w)(hgS:3<lb)(hbl:2≤base)(hbu:base≤36)(hW:Wr w g base k unit PA pn pc OA on oc)(hO:Own w lb 5 1 OA on oc (bs.map B8))(hgl:lb≤g)(hlb:lb≤w.heap.size)(ha:Wi w A an ac m)(hal:an≤4194304)(hun:unit=base^k)(hkk:PieceK base k)(hwd:width≤137438953472)(hon:on≤137438953472):aQ aM 181 #[i5 g 0,up A an ac,no width] w (CB w lb g base k unit PA pn pc OA (bs++eT (fG (db base m) width))):=by
 have ar:(wd m).length≤4194304:=a8 ha.len hal;have fe:unit≤18446744073709551615:=by rw [hun];exact hkk.le
 have dh:1≤k:=by refine Nat.pos_of_ne_zero (fun e=>?_);have:=hkk.gt;rw [e,eR,Nat.pow_one] at this;omega
 have aa:2≤unit:=by rw [hun];exact a8 hbl (a8 (Nat.le_of_eq (Nat.pow_one base).symm) (fZ i9 dh))
 refine bU Tryz.func181 93 J (sr (aE 1 J (aD (bO ?_))));obtain⟨H,L,_⟩:∃H,H≤w.heap.size∧w.heap.size≤H:=⟨_,aU _,(Ext.refl w).size⟩;refine dC (T:=a6×Option a7×Nat×Nat×Nat×Option a7×Nat×Nat×List Nat) (fun⟨wr,QA,qn,qc,mm,E,f,F,ps⟩=> [(0,i5 g 0),(2,no width),(1,up QA qn qc),(6,up E f F)]) (fun⟨wr,QA,qn,qc,mm,E,f,F,ps⟩=>wr) (fun⟨wr,QA,qn,qc,mm,E,f,F,ps⟩=>(UpdW lb w wr)∧(Ext w wr)∧(H≤wr.heap.size)∧(db unit m=ps++db unit mm)∧(ps.length=f)∧(Wi wr QA qn qc mm)∧(qn≤4194304)∧(Own wr H 43 1 E f F (ps.map bF))∧(mm≤m)) (fun⟨wr,QA,qn,qc,mm,E,f,F,ps⟩=>mm) (⟨w,A,an,ac,m,none,0,0,[]⟩:a6×Option a7×Nat×Nat×Nat×Option a7×Nat×Nat×List Nat) ⟨(UpdW.refl lb w),bN,L,rfl,rfl,ha,hal,(Own.nil _ _ _ _),(aU _)⟩ J (aP J) ?_;rintro⟨wr,QA,qn,qc,mm,E,f,F,ps⟩ ⟨o,Y,L,bi,av,hq,_,hP,bw⟩;refine fW [(0,i5 g 0),(2,no width),(1,up QA qn qc),(6,up E f F)] wr J (aP J) (aD (aD ?_));by_cases ao:mm=0
 ·have df:dR mm=0:=by rw [ao];rfl
  refine aK 1 J (dP [up QA qn qc] (JY hq i9) J ?_);rintro _ v1 ⟨_,rfl,r3,e2⟩;refine dO ?_;have G:UpdW lb w v1:=o.trans e2;have da:Ext w v1:=Y.trans e2;obtain rfl:=r3;refine aH J (i7 (dR mm) 0 J) (aG (aT J (d9 (cY (d7 (d8 (aL (aD ?_))))))));have M:db unit m=ps:=by rw [bi,ao,lC,m7]
  have psWf:Wf ps:=fun x hx=>by have:=lQ aa m x (M.symm▸hx);rw [dJ];omega
  have psW:∀q,ps.getD q 0≤18446744073709551615:=fun q=>by have:=uB psWf q;rw [dJ] at this;omega
  have gj:f*k≤268435456*64:=kP (by have:=vM aa ar;rw [M,av] at this;omega) hkk.le64;have gy:f≤268435456:=by have:=vM aa ar;rw [M,av] at this;omega
  refine aK 1 J (aA (no f) J (eC J J J (((f:Nat):Int)-1) (fS J) (mv 1 J (pf g 0 J (pf g 1 J (dG (hW.ext (Y.trans e2)) J (eC J J J (((f*k:Nat):Int)-(k:Int)) (yI (by rw [Int.sub_mul,Int.one_mul,oH]) (by have:=hkk.le64;omega) i9) (aE 1 J (aD (aV 1 J ?_))))))))));refine aE 1 J (bO ?_);refine dC (T:=a6×Nat×Nat×Option a7×Nat×Nat) (fun⟨wz,nn,z,OB,ob,U⟩=> [(0,i5 g 0),(2,no width),(6,up E f F),(10,no (((f*k:Nat):Int)-(k:Int))),(11,no nn)]) (fun⟨wz,nn,z,OB,ob,U⟩=>wz) (fun⟨wz,nn,z,OB,ob,U⟩=>(UpdW lb w wz)∧(nn+z=width)∧(z≤width-f*k)∧(ob=on+z)∧(Bk wz g 130 [no (base:Int),no (k:Int),t9 (unit:Int),up PA pn pc,up OB ob U])∧(Own wz lb 5 1 OB ob U ((bs++dF z 48).map B8))∧(Kept w OA OB)∧(Own wz H 43 1 E f F (ps.map bF))∧(H≤wz.heap.size)) (fun⟨wz,nn,z,OB,ob,U⟩=>nn) (⟨v1,width,0,OA,on,oc⟩:a6×Nat×Nat×Option a7×Nat×Nat) ⟨G,rfl,(bX _),rfl,(hW.ext (Y.trans e2)),(by rw [List.replicate_zero,m7];exact (hO.ext (Y.trans e2))),(Kept.refl w OA),(hP.ext e2),(a8 L (e2.size))⟩ J (aP J) ?_;rintro⟨wz,nn,z,OB,ob,U⟩ ⟨o,_,_,iG,b_g,ef,W,de,dz⟩;refine fW [(0,i5 g 0),(2,no width),(6,up E f F),(10,no (((f*k:Nat):Int)-(k:Int))),(11,no nn)] wz J (aP J) (aD (aD ?_));by_cases ia:nn>f*k
  ·refine aK 3 J (pf g 0 J (pf g 1 J (dG b_g J (eC J J J ((f*k:Nat):Int) (vZ) (zH J J J (((f*k:Nat):Int)) (aH J (gB nn (f*k) J) (aG (bC J (bB (aL (aD (bO ?_))))))))))));refine aK 2 J (pf g 0 J (pf g 4 J (dG b_g J (iF J J (k:=1) (e:=5) [.int .u8 48] ye fun _ v5 nb=>?_))));have fv:=nb.bk;have e7:=nb.ext;clear nb;have G:UpdW lb w v5:=o.trans e7;have au:=(ef.ext e7);refine nR J J J m8 vQ J au (a8 hlb G.size) [.int .u8 48] J (vC _ fv) J fun A9 ew ga cp X ej=>?_;have cm:=W.next ej G.size;have bf:UpdW lb w ga:=G.updO X (fun p hp=>(au.block p hp).1) (fun p cs t fr hp h=>cN (a0r hO W p cs t fr hp h));refine pf g 0 J (pf g 4 J ?_);have ah:=((b_g.ext e7).updO X (EF au (b_g.ext e7) yd));refine g9 ah [no (base:Int),no (k:Int),t9 (unit:Int),up PA pn pc,up A9 (ob+1) ew] J fun ez ey am _=>?_;have dt:UpdW lb w ez:=bf.upd am hgl (fun _ _ _ h=>cJ (GF hW h));refine cF (bT (aL (aK 1 J (bD J (iU nn 1 J) (bS 1 J (cP (⟨ez,nn-1,z+1,A9,ob+1,ew⟩:a6×Nat×Nat×Option a7×Nat×Nat) ⟨dt,i9,i9,i9,ey,(by rw [WJ];exact (cp.updT ah yd am)),cm,(((de.ext e7).updOT au yd X).updT ah yd am),(a8 dz ((a8 (a8 e7.size X.size) am.by_.size)))⟩ (show nn-1<nn by omega) J (aP J)))))))
  refine aK 3 J (pf g 0 J (pf g 1 J (dG b_g J (eC J J J ((f*k:Nat):Int) (vZ) (zH J J J (((f*k:Nat):Int)) (aH J (i7 nn (f*k) J) (aG (aT J (d9 (cY (d7 (d8 ?_))))))))))));refine aL (aD ?_);have fw:z=width-f*k:=by omega
  refine aK 1 J (aA (no f) J (eC J J J (((f:Nat):Int)-1) (fS J) (aE 1 J (bO ?_))));refine dC (T:=a6×Nat×Int×Option a7×Nat×Nat) (fun⟨wt,j,ii,OD,od,Z⟩=> [(0,i5 g 0),(2,no width),(6,up E f F),(10,no (((f*k:Nat):Int)-(k:Int))),(12,no ii)]) (fun⟨wt,j,ii,OD,od,Z⟩=>wt) (fun⟨wt,j,ii,OD,od,Z⟩=>(UpdW lb w wt)∧(j≤f)∧(ii=(j:Int)-1)∧(od≤on+width+(f-j)*64)∧(Bk wt g 130 [no (base:Int),no (k:Int),t9 (unit:Int),up PA pn pc,up OD od Z])∧(Own wt lb 5 1 OD od Z ((bs++dF (width-f*k) 48++eT (lO base k (min (width+k-f*k) k) (ps.drop j))).map B8))∧(Kept w OA OD)∧(Own wt H 43 1 E f F (ps.map bF))) (fun⟨wt,j,ii,OD,od,Z⟩=>j) (⟨wz,f,_,OB,ob,U⟩:a6×Nat×Int×Option a7×Nat×Nat) ⟨o,(aU _),rfl,i9,b_g,(by rw [List.drop_of_length_le i9,show lO base k (min (width+k-f*k) k) []= [] from rfl,←fw];simpa [eT] using (ef)),W,de⟩ J (aP J) ?_;rintro⟨wt,j,ii,OD,od,Z⟩ ⟨o,_,_,_,b_g,ai,W,aq⟩;refine fW [(0,i5 g 0),(2,no width),(6,up E f F),(10,no (((f*k:Nat):Int)-(k:Int))),(12,no ii)] wt J (aP J) (aD (aD ?_));by_cases gk:0<j
  ·obtain⟨q,rfl⟩:∃q,j=q+1:=⟨j-1,by omega⟩;obtain rfl:ii=(q:Int):=by omega
   have eh:ps.getD q 0≤18446744073709551615:=by have:=psW q;omega
   refine aK 1 J (aH J (tR) (aG (bC J (bB (aL (aD (bO (aV 1 J (pf g 0 J (pf g 1 J (dG b_g J ?_)))))))))));refine aE 1 J (aD (aD ?_));by_cases gf:q+1=f
   ·refine aK 2 J (aA (no f) J (eC J J J (((f:Nat):Int)-1) (fS J) (aH J (fE i9) (aG (bC J (aK 2 J (eC J J J (((width:Nat):Int)-(((f*k:Nat):Int)-(k:Int))) (fS J (h1:=(by have:=hkk.le64;omega)) (h2:=(by have:=hkk.le64;omega))) (zH J J J (((width+k-f*k:Nat):Int)) (mv 1 J (pf g 0 J (pf g 1 J ?_)))))))))));refine dG b_g J (IB J J J (((min (width+k-f*k) k:Nat):Int)) i9 yd (aE 1 J (aK 3 J ?_)));obtain⟨pw,bm,bo,fh⟩:=((aq).rd psWf).at (i:=q) i9;refine cA cH bZ q pw bm J (bG (d5 dK bo) J (mv 1 J (dP [i5 g 0,t9 (ps.getD q 0:Nat),no (min (width+k-f*k) k:Nat)] (JS (o.signs hS hgS) hgS hbl hbu b_g ai hgl (a8 hlb o.size) eh (by have:=hkk.le64;omega) (by have:=hkk.le64;omega)) J ?_)));rintro _ ci ⟨rfl,fk,dx,fi,dl,ag,ba,eg⟩;refine dO ?_;have G:UpdW lb w ci:=o.then ba;have ei:=W.next eg o.size;have aj:dx≤on+width+(f-q)*64:=by have h1:=(qJ ag).symm;have h2:=qJ ag;rw [h2,f8,zM,tM,←qJ ai];have h3:(db base (ps.getD q 0)).length≤64:=lY hbl (dA (show ps.getD q 0<2^64 by omega) (Nat.pow_le_pow_left hbl 64));have:=hkk.le64;omega
    have V:bs++dF (width-f*k) 48++eT (lO base k (min (width+k-f*k) k) (ps.drop (q+1)))++eT (fG (db base (ps.getD q 0)) (min (width+k-f*k) k))=bs++dF (width-f*k) 48++eT (lO base k (min (width+k-f*k) k) (ps.drop q)):=by rw [BV (by omega:q<ps.length),G7,zN,List.append_assoc,if_pos (List.drop_of_length_le i9)]
    refine cF (bT (aL (aK 1 J (eC J J J (((q:Nat):Int)-1) (fS J) (bS 1 J (cP (⟨ci,q,(q:Int)-1,fk,dx,fi⟩:a6×Nat×Int×Option a7×Nat×Nat) ⟨G,i9,rfl,aj,dl,(V▸(ag)),ei,(ba.own aq yd yd)⟩ (show q<q+1 by omega) J (aP J)))))))
   refine aK 2 J (aA (no f) J (eC J J J (((f:Nat):Int)-1) (fS J) (aH J (gC i9) (aG (aT J (bB (aL (aK 3 J ?_))))))));obtain⟨pw,bm,bo,fh⟩:=((aq).rd psWf).at (i:=q) i9;refine cA cH bZ q pw bm J (bG (d5 dK bo) J (mv 1 J (dP [i5 g 0,t9 (ps.getD q 0:Nat),no k] (JS (o.signs hS hgS) hgS hbl hbu b_g ai hgl (a8 hlb o.size) eh (by have:=hkk.le64;omega) (by have:=hkk.le64;omega)) J ?_)));rintro _ dy ⟨rfl,fm,fb,ft,ee,ak,az,bu⟩;refine dO ?_;have G:UpdW lb w dy:=o.then az;have cv:=W.next bu o.size;have aj:fb≤on+width+(f-q)*64:=by have h1:=(qJ ak).symm;have h2:=qJ ak;rw [h2,f8,zM,tM,←qJ ai];have h3:(db base (ps.getD q 0)).length≤64:=lY hbl (dA (show ps.getD q 0<2^64 by omega) (Nat.pow_le_pow_left hbl 64));have:=hkk.le64;omega
   have V:bs++dF (width-f*k) 48++eT (lO base k (min (width+k-f*k) k) (ps.drop (q+1)))++eT (fG (db base (ps.getD q 0)) k)=bs++dF (width-f*k) 48++eT (lO base k (min (width+k-f*k) k) (ps.drop q)):=by rw [BV (by omega:q<ps.length),G7,zN,List.append_assoc,if_neg (fun e=>by have:=congrArg List.length e;rw [iK] at this;simp only [List.length_nil] at this;omega)]
   refine cF (bT (aL (aK 1 J (eC J J J (((q:Nat):Int)-1) (fS J) (bS 1 J (cP (⟨dy,q,(q:Int)-1,fm,fb,ft⟩:a6×Nat×Int×Option a7×Nat×Nat) ⟨G,i9,rfl,aj,ee,(V▸(ak)),cv,(az.own aq yd yd)⟩ (show q<q+1 by omega) J (aP J)))))))
  refine aK 1 J (aH J (mJ) (aG (aT J (d9 (cY (d7 (d8 (sA [] J xl ?_))))))));have ct:j=0:=by omega
  have cj:bs++dF (width-f*k) 48++eT (lO base k (min (width+k-f*k) k) (ps.drop j))=bs++eT (fG (db base m) width):=by rw [ct,iN,List.append_assoc,←M,hun,YA hbl dh (hun▸aa) (by rw [←hun,M,av])]
  exact⟨rfl,OD,_,_,b_g,cj▸(ai),o,W⟩
 have df:dR mm≠0:=fun e=>ao (pZ.1 e);have bd:=nG aa ao;have gb:(wd (mm/unit)).length≤4194304:=a8 (iP (a8 (gN _ _) bw)) ar;have ge:=vM aa ar;have ib:ps.length<(db unit m).length:=by rw [bi,bd,f8,fO];omega
 refine aK 1 J (dP [up QA qn qc] (JY hq i9) J ?_);rintro _ em ⟨_,rfl,fd,I⟩;refine dO ?_;have G:UpdW lb w em:=o.trans I;have da:Ext w em:=Y.trans I;obtain rfl:=fd;refine aH J (gB (dR mm) 0 J) (aG (bC J (bB (aL (bO (aV 2 J (pf g 0 J (pf g 2 J (dG (hW.ext (Y.trans I)) J ?_)))))))));refine dP [up QA qn qc,t9 unit] (VK (hq.ext I) i9 i9 fe) J ?_;rintro _ cz ⟨_,rfl,fz,vU⟩;refine dO ?_;have bf:UpdW lb w cz:=G.trans vU;have fp:Ext w cz:=da.trans vU;obtain⟨_,_,_,rfl,⟨bg,dw,en,rfl,fx,dr⟩,r47_1,r47_2⟩:=fz;have ch:∀p q,E=some p→bg=some q→p.block≠q.block:=fun p q hp hq=>by have:=((((hP.ext I)).block) p hp).2;have:=(dr.block q hq).1;omega
 obtain rfl:=r47_1;obtain rfl:=r47_2;refine mv 1 J (aA (up bg dw en) J (aA (t9 (mm%unit:Nat)) J (aA (no 0) J (aE 3 J (aV 2 J (iF J J (k:=1) (e:=43) [t9 (mm%unit:Nat)] ye fun _ dg nb=>?_))))));have el:=nb.bk;have ab:=nb.ext;clear nb;have dt:UpdW lb w dg:=bf.trans ab;have fq:Ext w dg:=fp.trans ab;have aw:=(hP.ext (I.t (vU.t ab)));refine nR J J J cH j9 J aw (a8 L ((a8 (a8 I.size vU.size) ab.size))) [t9 (mm%unit:Nat)] J (vC _ el) J fun fg fo bp du ae _=>?_;have dm:Ext w bp:=ae.ext fq (fun p hp=>by have:=aw.block p hp;omega);have fy:UpdW lb w bp:=(UpdW.refl lb w).trans dm;refine aE 1 J (bH (bS 2 J (bT (cP (⟨bp,bg,dw,en,mm/unit,fg,f+1,fo,ps++ [mm%unit]⟩:a6×Option a7×Nat×Nat×Nat×Option a7×Nat×Nat×List Nat) ⟨fy,dm,(a8 L ((a8 (a8 (a8 I.size vU.size) ab.size) ae.size))),(by rw [bi,bd,List.append_assoc];rfl),(by rw [f8,av];rfl),((dr.ext ab).updO ae ch).wi,(by rw [fx];exact gb),(by rw [List.map_append];exact du),(a8 (gN _ _) bw)⟩ (m0 i9 i9) J (aP J)))))
def gE (b m:Nat):List Nat:=if m=0 then [48] else eT (db b m)
theorem LE:∀(ns:List Nat) (r:ByteArray),(ns.map fun x:Nat=>(x:Int)).foldl (fun r n=>r.push (UInt8.ofNat n.toNat)) r=⟨r.data++(ns.map UInt8.ofNat).toArray⟩
 | [],r=>by simp
 | n::ns,r=>by
  rw [jS,List.foldl_cons,LE ns]
  simp [ByteArray.push,Array.push]
theorem VW (h:Own w lb T 1 A n c (bs.map B8)):(Conv.bytesToString (up A n c)).run P w= .ok (.string (aN bs)) w:=by
 cases A with
 | none=>
  rcases h with⟨_,_,_,h⟩ | ⟨g,cs,f,_⟩
  ·rw [List.map_eq_nil_iff] at h;subst h;rfl
  ·cases f
 | some a=>
  have hn:=qJ h
  have hl:=AG (P:=P) (w:=w) (p:=a) (bs.map B8) 0 #[] (fun j o=>by
   rw [List.length_map] at o
   obtain⟨a',E,hc⟩:=h.rv.get j i9
   cases E
   rw [eR];exact hc)
  have hr:=run_bytesToString (P:=P) w a n c (bs.map fun x:Nat=>(x:Int)) (by
   rw [List.length_map,←hn] at hl
   unfold loadCells
   rw [hl]
   congr 1
   simp [B8,Function.comp_def])
  rw [hr,LE]
  rw [show ByteArray.empty.data= #[] from rfl,Array.empty_append]
  rfl
theorem zG {Q:dX→Act→a6→Prop}{l:Fr}{x:cR}(hw:dD ops l gd=some true)(hx:cB l x=some (up A k c))(ho:Own w lb T 1 A k c (bs.map B8))(h:wl aM ops Q n rest ((d,.string (aN bs))::l) w)(hn:d<n:=by decide):wl aM ops Q n (⟨some d,.convert 114 9 x,ty,pos,af,gd⟩::rest) l w:=by
 refine gO hw hn (fun a' f=>?_) h
 have e:(convert 114 9 (a'.eval x)).run aM w= .ok (.string (aN bs)) w:=by
  rw [f.ev hx]
  have h1:(underlying 114).run aM w= .ok (.slice 5) w:=nL m8 w
  have h2:(underlying 9).run aM w= .ok .string w:=nL Tryz.underlying9 w
  have o:(underlying 5).run aM w= .ok (.int .u8) w:=nL Tryz.underlying5 w
  unfold convert
  simp only [cV,h1,h2,o,fK]
  exact VW ho
 show ((convert 114 9 (a'.eval x)>>=fun r=>pure (iE r):Sem gS)).run aM w=_;rw [cV,e];rfl
theorem UC (a b:List Nat):aN a++aN b=aN (a++b):=by
 unfold aN;rw [ByteArray.mk_append_mk,List.map_append]
theorem eJ (a:List Nat):(aN a).size=a.length:=by simp [aN,ByteArray.size]
theorem uT {a b:List Nat}(h:a.length+b.length≤1099511627776):(binOp .add t (.string (aN a)) (.string (aN b))).run P w= .ok (.string (aN (a++b))) w:=by
 have h1:=run_string_add_sum (P:=P) w (aN a) (aN b) (by rw [eJ,eJ];omega);rw [UC] at h1;simp [binOp,h1]
theorem OQ (hx:Wi w A n c m)(hl:n≤1099511627776):aQ aM 94 #[up A n c] w (Gv w (WR w.heap.size m)):=by
 obtain⟨xs,h1,rfl⟩:=hx;exact (kY h1 (hl:=hl)).mono (gw (aU _))
theorem DH (h:(wd m).length≤n)(hb:2≤b:=by decide):(gE b m).length≤64*n+1:=by
 unfold gE;split
 ·simp
 rw [zM];have:=vM hb h;omega
def iX (x:Int):List Nat:=if x<0 then [45]++gE 10 x.natAbs else gE 10 x.natAbs
theorem VJ {pc:Nat}(hS:Signs w)(hgS:3<lb)(hbl:2≤base)(hbu:base≤36)(hW:Wr w g base k unit PA pn pc OA on oc)(hO:Own w lb 5 1 OA on oc (bs.map B8))(hgl:lb≤g)(hlb:lb≤w.heap.size)(ha:Wi w A an ac m)(hal:an≤4194304)(hun:unit=base^k)(hkk:PieceK base k)(hwd:width≤137438953472)(hon:on≤137438953472):aQ aM 163 #[i5 g 0,up A an ac,no (-1),no width] w (CB w lb g base k unit PA pn pc OA (bs++eT (fG (db base m) width))):=by
 refine bU Tryz.func163 74 J (aD (aV 1 J (fP J J J true (mv 4 J (aA (we) J (aG (bC J (aV 3 J (dP [i5 g 0,up A an ac,no width] (JT hS hgS hbl hbu hW hO hgl (a8 hlb (UpdW.refl lb w).size) ha hal hun hkk hwd hon) J ?_)))))))));rintro _ I ⟨rfl,H,_,_,f,E,G,h⟩;refine dO ?_;have F:UpdW lb w I:=(UpdW.refl lb w).then G;have o:=(Kept.refl w OA).next h (UpdW.refl lb w).size;refine aG (bA (cI (aZ [] J xl ?_)));exact⟨rfl,H,_,_,f,E,F,o⟩
theorem UN {α:Type}{p:List α→Prop}(nil:p [])(snoc:∀r a,p r→p (r++ [a]))(l:List α):p l:=by
 have h:∀r:List α,p r.reverse:=by
  intro r
  induction r with
  | nil=>exact nil
  | cons a r ih=>rw [List.reverse_cons];exact snoc _ _ ih
 have:=h l.reverse;rwa [List.reverse_reverse] at this
theorem xA (hb:∀b,b∈bs→b<256)(hi:i<bs.length)(h:i<(aN bs).size):((aN bs)[i]'h).toNat=bs.getD i 0:=by
 have e:(aN bs)[i]'h=UInt8.ofNat (bs.getD i 0):=by
  show ((bs.map UInt8.ofNat).toArray)[i]'(by simpa using hi)=_
  rw [List.getElem_toArray,List.getElem_map,bL,cT hi];rfl
 rw [e,UInt8.toNat_ofNat'];refine iW ?_;rw [bL,cT hi];exact hb _ (oG hi)
def It (w:a6)(g:Nat)(bs:List Nat)(pos:Nat):Prop:=w.heap[g]?=some (.stringIter (aN bs) pos)
theorem It.lt {pos:Nat}(h:It w g bs pos):g<w.heap.size:=(qB.1 h).1
theorem It.ext {pos:Nat}(h:It w g bs pos)(e:Ext w w'):It w' g bs pos:=e.heap h
theorem It.updO {pos:Nat}(h:It w g bs pos)(e:UpdO A w w')(hne:∀p,A=some p→p.block≠g):It w' g bs pos:=e.heap h hne
theorem NT {t s pos:Nat}(h:Own w b t s A n c us)(hi:It w g bs pos):∀p,A=some p→p.block≠g:=fun p f e=>by
 rcases h with⟨h,_⟩ | ⟨k,cs,E,_,o,_⟩
 ·rw [h] at f;cases f
 ·rw [E] at f;cases f
  simp only at e
  subst e
  unfold Bk at o
  unfold It at hi
  rw [o] at hi
  cases hi
theorem Own.updI {t s pos:Nat}(h:Own w b t s A n c us)(hi:It w g bs pos)(u:Upd g w w'):Own w' b t s A n c us:=h.upd u (NT h hi)
section
variable {P:cO}{Q:dX→Act→a6→Prop}{n:Nat}{l:Fr}{w:a6}{ops:Array bE}{rest:List bE}{d:Nat}{ty:aS}{pos:String}{af:Array fL}{gd:Option (Nat×Bool)}
theorem S3 {x:cR}(hw:dD ops l gd=some true)(hx:cB l x=some (.string (aN bs)))(ht:P.underlying t=some .string)(hn:d<n)(h:∀g w',w.heap.size=g→It w' g bs 0→Ext w w'→wl P ops Q n rest ((d,i5 g 0)::l) w'):wl P ops Q n (⟨some d,.range t x,ty,pos,af,gd⟩::rest) l w:=by
 refine gO hw hn (fun a' f=>?_) (h _ (w.iter (aN bs) 0) J (World.iter_heap w _ 0) ((Ext.refl w).alloc _));have e:(Instr.range t (a'.eval x)).run P w= .ok (i5 w.heap.size 0) (w.iter (aN bs) 0):=by rw [f.ev hx];exact run_range_string w t _ ht
 show ((Instr.range t (a'.eval x)>>=fun r=>pure (iE r):Sem gS)).run P w=_;rw [cV,e];rfl
theorem W5 {p:Nat}(h:It w g bs p)(hp:p<bs.length)(ty:aS):∃w',(Instr.next (i5 g 0) true ty).run P w= .ok (.tuple #[we,no (p:Int),.int .i32 ((Utf8.decode (aN bs) p).1:Int)]) w'∧It w' g bs (p+(Utf8.decode (aN bs) p).2)∧Upd g w w':=by
 have hs:p<(aN bs).size:=by rw [eJ];exact hp
 refine⟨{w with heap:=w.heap.setIfInBounds g (.stringIter (aN bs) (p+(Utf8.decode (aN bs) p).2))},?_,?_,?_⟩
 ·unfold It at h;simp only [Instr.next,getObj,setObj,cV,Sem.run,h,Result.andThen,hs,if_true];simp [goInt]
 ·unfold It;have:=h.lt;simp [this]
 refine⟨⟨rfl,rfl,rfl,by simp,fun k _ f=>?_⟩⟩;have:g≠k:=fun e=>f (by rw [e]);simp [this]
theorem W4 {p:Nat}(h:It w g bs p)(hp:¬p<bs.length)(ty:aS):(Instr.next (i5 g 0) true ty).run P w= .ok (.tuple #[wk]) w:=by
 have hs:¬p<(aN bs).size:=by rw [eJ];exact hp
 unfold It at h;simp [Instr.next,getObj,Sem.run,h,hs]
theorem S7 {x:cR}{p:Nat}(hw:dD ops l gd=some true)(hx:cB l x=some (i5 g 0))(h:It w g bs p)(hp:p<bs.length)(hn:d<n)(k:∀w',It w' g bs (p+(Utf8.decode (aN bs) p).2)→Upd g w w'→wl P ops Q n rest ((d,.tuple #[we,no (p:Int),.int .i32 ((Utf8.decode (aN bs) p).1:Int)])::l) w'):wl P ops Q n (⟨some d,.next x true,ty,pos,af,gd⟩::rest) l w:=by
 obtain⟨w',hr,h1,h2⟩:=W5 (P:=P) h hp ty;refine gO hw hn (fun a' f=>?_) (k w' h1 h2);have e:(Instr.next (a'.eval x) true ty).run P w= .ok (.tuple #[we,no (p:Int),.int .i32 ((Utf8.decode (aN bs) p).1:Int)]) w':=by rw [f.ev hx];exact hr
 show ((Instr.next (a'.eval x) true ty>>=fun r=>pure (iE r):Sem gS)).run P w=_;rw [cV,e];rfl
theorem S5 {x:cR}{p:Nat}(hw:dD ops l gd=some true)(hx:cB l x=some (i5 g 0))(h:It w g bs p)(hp:¬p<bs.length)(hn:d<n)(k:wl P ops Q n rest ((d,.tuple #[wk])::l) w):wl P ops Q n (⟨some d,.next x true,ty,pos,af,gd⟩::rest) l w:=by
 refine gO hw hn (fun a' f=>?_) k;have e:(Instr.next (a'.eval x) true ty).run P w= .ok (.tuple #[wk]) w:=by rw [f.ev hx];exact W4 (P:=P) h hp ty
 show ((Instr.next (a'.eval x) true ty>>=fun r=>pure (iE r):Sem gS)).run P w=_;rw [cV,e];rfl
end
def dv (c:Nat):Nat:=if 48≤c∧c≤57 then c-48 else if 97≤c∧c≤122 then c-87 else if 65≤c∧c≤90 then c-55 else 36
theorem a15 (c:Nat):dv c≤36:=by unfold dv;split <;> (try split) <;> (try split) <;> omega
theorem FU (h:128≤c):dv c=36:=by unfold dv;rw [if_neg i9,if_neg i9,if_neg i9]
theorem a2z (hb:∀b,b∈bs→b<256){p:Nat}(hp:p<bs.length)(h:bs.getD p 0<128):Utf8.decode (aN bs) p=(bs.getD p 0,1):=by
 have hs:p<(aN bs).size:=by rw [eJ];exact hp
 have e:=xA hb hp hs;rw [decode_ascii (aN bs) p hs (by rw [e];exact h),e]
def cZ (b:Nat)(ds:List Nat):Nat:=ds.foldl (fun a d=>a*b+d) 0
theorem zK (b:Nat)(ds:List Nat)(d:Nat):cZ b (ds++ [d])=cZ b ds*b+d:=by unfold cZ;rw [List.foldl_append];rfl
theorem DC (b a:Nat):∀ds:List Nat,ds.foldl (fun a d=>a*b+d) a=a*b^ds.length+cZ b ds
 | []=>by simp [cZ]
 | d::ds=>by
  have e:cZ b (d::ds)=(0*b+d)*b^ds.length+cZ b ds:=by
   unfold cZ;rw [List.foldl_cons];exact DC b _ ds
  rw [List.foldl_cons,DC b _ ds,e,fO,dS]
  simp only [wL,eR,eE,cU]
  rw [dH b (b^ds.length)]
  omega
theorem IL (b:Nat)(xs ys:List Nat):cZ b (xs++ys)=cZ b xs*b^ys.length+cZ b ys:=by
 unfold cZ;rw [List.foldl_append,DC];rfl
theorem DB (_hb:1≤b):∀ds:List Nat,(∀d,d∈ds→d<b)→cZ b ds<b^ds.length:=by
 intro ds
 induction ds using UN with
 | nil=>intro _;simp [cZ]
 | snoc r a ih=>
  intro h
  have h1:=ih fun d hd=>h d (by simp [hd])
  have h2:=h a ym
  rw [zK,f8,List.length_singleton,dS]
  have h3:(cZ b r+1)*b≤b^r.length*b:=fC b h1
  rw [eE,Nat.one_mul] at h3
  omega
def fH (b:Nat)(bs:List Nat):Prop:=bs≠ []∧∀c,c∈bs→dv c<b
end
section
open Go.ChangeShapes Go.WideShapes Go.ChangeAt Go.RowKit
theorem U9 (s:ByteArray):∃bs:List Nat,s=aN bs∧(∀b,b∈bs→b<256)∧bs.length=s.size:=by
 refine⟨s.data.toList.map UInt8.toNat,?_,?_,?_⟩
 ·unfold aN;rw [List.map_map];have:(UInt8.ofNat∘UInt8.toNat)=id:=funext fun x=>UInt8.ofNat_toNat;rw [this,List.map_id]
 ·intro b hb;obtain⟨x,_,rfl⟩:=m4.1 hb;exact x.toNat_lt
 rw [List.length_map,Array.length_toList];rfl
theorem UB {a b:List Nat}(ha:∀x,x∈a→x<256)(hb:∀x,x∈b→x<256)(h:aN a=aN b):a=b:=by
 have hl:a.length=b.length:=by rw [←eJ a,h,eJ]
 refine List.ext_getElem hl fun i h1 h2=>?_;have o:=xA ha h1 (by rw [eJ];exact h1);have E:=xA hb h2 (by rw [eJ];exact h2)
 have f:((aN a)[i]'(by rw [eJ];exact h1)).toNat=((aN b)[i]'(by rw [eJ];exact h2)).toNat:=by
  congr 1;simp only [h]
 rw [o,E,bL,cT h1,bL,cT h2] at f;exact f
def sZ (o:jU)(a b:List Nat):Option Bool:=match o with
 | .eql=>some (decide (a=b))
 | .neq=>some (!decide (a=b))
 | _=>none
theorem TL {a b:ByteArray}(h:a.toList=b.toList):a=b:=by
 rw [ByteArray.toList_eq,ByteArray.toList_eq] at h;exact Go.WideShapes.bytes_inj h
section
variable {P:cO}{Q:dX→Act→a6→Prop}{n:Nat}{l:Fr}{w:a6}{ops:Array bE}{rest:List bE}{d:Nat}{ty:aS}{pos:String}{af:Array fL}{gd:Option (Nat×Bool)}
theorem VY {x y:cR}{a b:List Nat}{r:Bool}(ha:∀x,x∈a→x<256)(hb:∀x,x∈b→x<256)(hr:sZ o a b=some r):((do eqGuard o t x y (.string (aN a)) (.string (aN b));binOp o t (.string (aN a)) (.string (aN b))):Sem aF).run P w= .ok (.bool r) w:=by
 have key:((aN a).toList==(aN b).toList)=decide (a=b):=by
  by_cases h:a=b
  ·subst h;simp
  ·rw [decide_eq_false h,beq_eq_false_iff_ne]
   exact fun e=>h (UB ha hb (TL e))
 cases o <;> simp only [sZ,reduceCtorEq,f7] at hr
 ·subst hr;simp [eqGuard,binOp,Op.stringOp,key]
 subst hr;simp [eqGuard,binOp,Op.stringOp,key]
theorem pK {x y:cR}{a b:List Nat}(hw:dD ops l gd=some true)(hx:cB l x=some (.string (aN a)))(hy:cB l y=some (.string (aN b)))(ha:∀x,x∈a→x<256)(r:Bool)(hr:sZ o a b=some r)(h:wl P ops Q n rest ((d,.bool r)::l) w)(hb:∀x,x∈b→x<256:=by decide)(hn:d<n:=by decide):wl P ops Q n (⟨some d,.binOp o t x y t',ty,pos,af,gd⟩::rest) l w:=
 gO hw hn (fun a' ha'=>by
  have e:((do eqGuard o t x y (a'.eval x) (a'.eval y);binOp o t (a'.eval x) (a'.eval y)):Sem aF).run P w= .ok (.bool r) w:=by
   rw [ha'.ev hx,ha'.ev hy];exact VY ha hb hr
  show ((((do eqGuard o t x y (a'.eval x) (a'.eval y);binOp o t (a'.eval x) (a'.eval y)):Sem aF)>>=fun r=>pure (iE r)):Sem gS).run P w=_
  rw [cV,e];rfl) h
end
end
section
open Go.RowKit
structure Low (p q x y:Int):Prop where
 pos:0<q
 co:Int.gcd p q=1
 eq:p*y=x*q
 np:p.natAbs≤x.natAbs
 nq:q.natAbs≤y.natAbs
theorem F1 {p q:Int}(h1:Int.gcd p q=1)(h2:Int.gcd p' q'=1)(hq:0<q)(hq':0<q')(e:p*q'=p'*q):p=p'∧q=q':=by
 have h:p.natAbs*q'.natAbs=p'.natAbs*q.natAbs:=by rw [←Int.natAbs_mul,←Int.natAbs_mul,e]
 have o:Nat.Coprime q.natAbs p.natAbs:=by rw [Nat.coprime_comm];exact h1
 have E:Nat.Coprime q'.natAbs p'.natAbs:=by rw [Nat.coprime_comm];exact h2
 have d1:q.natAbs∣q'.natAbs:=o.dvd_of_dvd_mul_left (h▸Nat.dvd_mul_left _ _);have d2:q'.natAbs∣q.natAbs:=E.dvd_of_dvd_mul_left (h▸Nat.dvd_mul_left _ _)
 have f:q=q':=by
  have:=Nat.dvd_antisymm d1 d2
  omega
 subst f;exact⟨Int.eq_of_mul_eq_mul_right i9 e,rfl⟩
theorem Low.uniq {p q x' y':Int}(h:Low p q x y)(k:Low p' q' x' y')(hy:y≠0)(hy':y'≠0)(e:x*y'=x'*y):p=p'∧q=q':=by
 refine F1 h.co k.co h.pos k.pos ?_
 have h1:(p*q')*(y*y')=(p'*q)*(y*y'):=by
  calc (p*q')*(y*y')=(p*y)*(q'*y'):=by grind
   _=(x*q)*(q'*y'):=by rw [h.eq]
   _=(x*y')*(q*q'):=by grind
   _=(x'*y)*(q*q'):=by rw [e]
   _=(x'*q')*(q*y):=by grind
   _=(p'*y')*(q*y):=by rw [k.eq]
   _=(p'*q)*(y*y'):=by grind
 exact Int.eq_of_mul_eq_mul_right (Int.mul_ne_zero hy hy') h1
theorem Bk.four {a b c d:aF}(h:Bk w g t [a,b,c,d]):(w.cell? ⟨g,0,none⟩=some a∧w.cell? ⟨g,1,none⟩=some b∧w.cell? ⟨g,2,none⟩=some c∧w.cell? ⟨g,3,none⟩=some d)∧(w.frozen? ⟨g,0,none⟩=false∧w.frozen? ⟨g,1,none⟩=false∧w.frozen? ⟨g,2,none⟩=false∧w.frozen? ⟨g,3,none⟩=false):=
 ⟨⟨h.cell (i:=0) ym,h.cell (i:=1) ym,h.cell (i:=2) ym,h.cell (i:=3) ym⟩,h.frozen 0,h.frozen 1,h.frozen 2,h.frozen 3⟩
theorem Bk.fr2 {l:Array aF}:Bk ((w.alloc (.cells l t')).alloc (.cells vs.toArray t)) (w.heap.size+1) t vs:=by
 have:=Bk.new (w.alloc (.cells l t')) t vs;simpa using this
theorem Q7 (w:a6)(t t':aS)(l l':List aF):∃g g2 wa,w.heap.size+1=g2∧w.heap.size=g∧(w.alloc (.cells l.toArray t)).alloc (.cells l'.toArray t')=wa∧Bk wa g t l∧Bk wa g2 t' l'∧Ext w wa∧g<g2∧g2<wa.heap.size∧g≠g2∧g2≠g:=
 ⟨_,_,_,rfl,rfl,rfl,(Bk.new w t l).alloc _,Bk.fr2,((Ext.refl w).alloc _).alloc _,by omega,by simp,by omega,by omega⟩
theorem Q8 (w:a6)(t:aS)(l:List aF):∃g wa,w.heap.size=g∧w.alloc (.cells l.toArray t)=wa∧Bk wa g t l∧Ext w wa∧g<wa.heap.size:=
 ⟨_,_,rfl,rfl,Bk.new w t l,(Ext.refl w).alloc _,by simp⟩
theorem Zr.eq_iff {t:Bool}(hx:Zr w base s A n cap x)(hy:Zr w base' t B m cap' y):x=y↔(s=t∧wd x.natAbs=wd y.natAbs):=by
 constructor
 ·intro h;subst h;exact⟨hx.sgn.trans hy.sgn.symm,rfl⟩
 rintro⟨h1,h2⟩;have o:=SR h2;have f:decide (x<0)=decide (y<0):=by rw [←hx.sgn,←hy.sgn,h1]
 rw [←DQ x,←DQ y,o,f]
theorem xY {t:Bool}(hx:Zr w base s A n cap x)(hl:n≤1099511627776)(hy:Zr w base' t B m cap' y)(hl':m≤1099511627776){b:Bool}(hb:b=decide (x=y)):aQ aM 11 #[O s A n cap,O t B m cap'] w (uE b w):=by
 have HB:Hid (b=decide (s=t∧wd x.natAbs=wd y.natAbs)):=by
  show _=_
  rw [hb];congr 1;exact propext (hx.eq_iff hy)
 clear hb
 go_enter Tryz.func11,Tryz.ntmps11
 go_upto_region 1 with (fail)
 obtain⟨g,g2,wa,hg2,hg,hwa,hb1,hb2,hea,l12,l2,n12,n21⟩:=Q7 w 24 24 (a5 s A n cap) (a5 t B m cap');rw [hg2,hg,hwa];clear hwa hg hg2;obtain⟨f1,f2,f3,f4⟩:=hb1.two;obtain⟨h1,h2,h3,h4⟩:=hb2.two;by_cases hst:s=t
 ·have bs:(s==t)=true:=by rw [hst];cases t <;> rfl
  have HST:=Lib.hid hst;clear hst
  go_wp2_with fail
  refine (KO (hx.rd.ext hea) hl (hy.rd.ext hea) hl').mono ?_;rintro e w1 ⟨rfl,hx1⟩
  have ed:decide (wd x.natAbs=wd y.natAbs)=b:=by
   rw [HB.out];congr 1;simp [HST.out]
  rw [ed]
  go_wp2_with fail
  go_ret
  exact⟨rfl,hea.trans hx1⟩
 have bs:(s==t)=false:=by cases s <;> cases t <;> simp_all
 obtain rfl:b=false:=by rw [HB.out];exact decide_eq_false (fun h=>hst h.1)
 clear hst HB
 go_wp2_with fail
 go_ret
 exact⟨rfl,hea⟩
theorem a0m {s' t t':Bool}{B':Option a7}{dap m' dap':Nat}{v:Int}(hx:Zr w base s A n cap x)(hl:n≤1099511627776)(hy:Zr w base s' A' n' cap' y)(hl':n'≤1099511627776)(hu:Zr w base' t B m dap u)(hk:m≤1099511627776)(hv:Zr w base' t' B' m' dap' v)(hk':m'≤1099511627776)(h1:x=u)(h2:y=v):aQ aM 45 #[a9 s A n cap s' A' n' cap',a9 t B m dap t' B' m' dap'] w (uE true w):=by
 subst h1;subst h2
 go_enter Tryz.func45,Tryz.ntmps45
 go_upto_region 1 with (fail)
 obtain⟨g,g2,wa,hg2,hg,hwa,hb1,hb2,hea,l12,l2,n12,n21⟩:=Q7 w 26 26 [.bool s,up A n cap,.bool s',up A' n' cap'] [.bool t,up B m dap,.bool t',up B' m' dap'];rw [hg2,hg,hwa];clear hwa hg hg2;obtain⟨⟨a0,a1,a2,a3⟩,a4⟩:=hb1.four;obtain⟨⟨b0,b1,b2,b3⟩,b4⟩:=hb2.four
 go_wp2_with fail
 refine (xY (hx.ext hea) hl (hu.ext hea) hk (b:=true) ym).mono ?_;rintro e w1 ⟨rfl,hx1⟩;clear a0 a1 a2 a3 a4 b0 b1 b2 b3 b4;obtain⟨⟨a0,a1,a2,a3⟩,a4⟩:=(hb1.ext hx1).four;obtain⟨⟨b0,b1,b2,b3⟩,b4⟩:=(hb2.ext hx1).four
 go_wp2_with fail
 refine (xY (hy.ext (hea.trans hx1)) hl' (hv.ext (hea.trans hx1)) hk' (b:=true) ym).mono ?_;rintro e w2 ⟨rfl,hx2⟩
 go_wp2_with fail
 go_ret
 exact⟨rfl,hea.trans (hx1.trans hx2)⟩
theorem Zr.lit (w:a6){v:Nat}(hv:v≤18446744073709551615)(h0:v≠0)(hz:z=sg s v):Zr (w.alloc (.cells #[t9 (v:Int)] 43)) w.heap.size s (some ⟨w.heap.size,0,none⟩) 1 1 z:=by
 have e:z.natAbs=v:=by rw [hz,mY]
 have f:wd v= [v]:=zJ (by rw [dJ];omega) h0;refine⟨?_,?_,?_⟩
 ·rw [hz];cases s
  ·rw [nT];exact (decide_eq_false i9).symm
  rw [uW];exact (decide_eq_true i9).symm
 ·unfold ln;rw [e,f];rfl
 rw [e,f];exact Own.mk_ (aU _) (Bk.new w 43 [t9 (v:Int)]) (aU _) (by rw [eV];omega) J rfl
theorem NJ {v:Nat}(hv:v≤18446744073709551615)(h0:v≠0):aQ aM 17 #[t9 (v:Int)] w (nK w (v:Int)):=by
 have bv:((v:Int)==0)=false:=by simp;omega
 go_enter Tryz.func17,Tryz.ntmps17
 go_upto_region 3 with (fail)
 obtain⟨g,wa,hg,hwa,hb1,hea,l2⟩:=Q8 w 24 (a5 false none 0 0);rw [hg,hwa];have hgw:w.heap.size≤g:=Nat.le_of_eq hg;clear hwa hg;have hlit:Zr (wa.alloc (.cells #[t9 (v:Int)] 43)) wa.heap.size false (some ⟨wa.heap.size,0,none⟩) 1 1 (v:Int):=Zr.lit wa hv h0 (nT v).symm;have hb2:=hb1.alloc (.cells #[t9 (v:Int)] 43);obtain⟨wb,hwb⟩:∃wb,wa.alloc (.cells #[.int .u64 (v:Int)] 43)=wb:=⟨_,rfl⟩;rw [hwb] at hlit hb2;have heb:Ext w wb:=by rw [←hwb];exact hea.alloc _
 obtain⟨k1,k2,k3,k4⟩:=hb2.two
 go_wp2_with fail
 refine kE (nV J J (hb2.two_set _ _)) J ?_;exact oB hb2 hlit heb
theorem Zi.six (w:a6):Zi (w.alloc (.cells #[t9 6,t9 0] 43)) true (some ⟨w.heap.size,0,none⟩) 2 2 (-6):=by
 refine⟨[6,0],?_,by decide⟩;have h:Bk (w.alloc (.cells #[t9 6,t9 0] 43)) w.heap.size 43 ([6,0].map bF):=Bk.new w 43 [t9 6,t9 0];exact h.rd (o:=0) (n:=2) (cap:=2) (by intro x hx;simp at hx;rcases hx with rfl | rfl <;> decide) (aU _) ym (by rw [eV];omega)
end
section
def nd:List Int→Int×Int
 | []=>(1,0)
 | x::r=>(x*(nd r).1+(nd r).2,(nd r).1)
theorem xO (x:Int)(r:List Int):(nd (x::r)).2=(nd r).1:=rfl
theorem AZ (x:Int)(r:List Int):(nd (x::r)).1=x*(nd r).1+(nd r).2:=rfl
theorem B2 (l:List Int):Int.gcd (nd l).1 (nd l).2=1:=by
 induction l with
 | nil=>rfl
 | cons x r ih=>
  rw [AZ,xO,Int.gcd_comm]
  have:Int.gcd (nd r).1 (x*(nd r).1+(nd r).2)=Int.gcd (nd r).1 (nd r).2:=by simp
  rw [this];exact ih
theorem YW (l:List Int)(h:∀x∈l,0<x):0<(nd l).1∧0≤(nd l).2:=by
 induction l with
 | nil=>exact⟨by decide,by decide⟩
 | cons x r ih=>
  obtain⟨h1,h2⟩:=ih (fun y hy=>h y (by simp [hy]))
  rw [AZ,xO]
  have:=Int.mul_pos (h x ym) h1
  exact⟨by omega,by omega⟩
theorem YX (x:Int)(r:List Int)(h:∀y∈r,0<y):0<(nd (x::r)).2:=by
 rw [xO];exact (YW r h).1
end
section
open Go.RowKit
theorem Zl.elem {a:a7}(h:Zl w (some a) n cap zs ms)(hi:i<n):∃s B c,(∀w',Ext w w'→∀(P:cO) (T:aS),AggT P T 2→(loadVar T (a.add (i*2))).run P w'= .ok (.agg #[.bool s,up B (ms.getD i 0) c]) w')∧Zi w s B (ms.getD i 0) c (zs.getD i 0):=by
 obtain⟨a',s,B,c,E,h1,h2,F⟩:=h.get i hi;cases E;refine⟨s,B,c,fun w' e P T f=>tJ f [.bool s,up B (ms.getD i 0) c] J (fun j o=>?_),F⟩;rw [oY]
 match j,o with
 | 0,_=>exact e.cell h1
 | 1,_=>exact e.cell h2
theorem Zl.some (h:Zl w A n cap zs ms)(hn:0<n):∃a,A=some a:=by
 obtain⟨a,s,B,c,f,_⟩:=h.get 0 hn;exact⟨a,f⟩
theorem sB:Tryz.prog.underlying 27=some (.slice 24):=by kernel_rfl
def FR (b:Nat)(p q:Int)(v:aF)(w:a6):Prop:=∃s A n c s' A' n' c',v= a9 s A n c s' A' n' c'∧Zr w b s A n c p∧Zr w b s' A' n' c' q
theorem FR.imp {p q:Int}(hb:b≤b')(v:aF)(w:a6)(h:FR b' p q v w):FR b p q v w:=by
 obtain⟨s,A,n,c,s',A',n',c',rfl,h1,h2⟩:=h;exact⟨s,A,n,c,s',A',n',c',rfl,h1.mono hb,h2.mono hb⟩
theorem MX:∀(zs:List Int) (ms:List Nat),zs.length=ms.length→(∀i,i<zs.length→ln (zs.getD i 0)≤ms.getD i 0)→ln (nd zs).1≤ms.sum+zs.length+1∧ln (nd zs).2≤ms.sum+zs.length
 | [],[],_,_=>by
  constructor
  ·exact (by decide+kernel:ln 1≤1)
  ·exact (by decide+kernel:ln 0≤0)
 | [],_::_,h,_=>by simp at h
 | _::_,[],h,_=>by simp at h
 | x::r,m::ms,h,hl=>by
  obtain⟨h1,h2⟩:=MX r ms (by simpa using h) (fun i hi=>by have:=hl (i+1) (by simpa using hi);simpa using this)
  have h0:=hl 0 ym
  simp only [List.getD_cons_zero] at h0
  rw [AZ,xO]
  simp only [List.sum_cons,fO]
  constructor
  ·refine a8 (eK (dI h0 h1) h2) ?_
   omega
  ·omega
theorem Zl.ln (h:Zl w A n cap zs ms)(i:Nat)(hi:i<n):Go.Proofs.YtkkabncicmhjfaaGreatDoor.ln (zs.getD i 0)≤ms.getD i 0:=by
 obtain⟨a,s,B,c,_,_,_,f⟩:=h.get i hi;exact f.ln
theorem ZX (h:Zl w A n cap zs ms)(k:Nat)(hl:n≤1048576)(hs:ms.sum≤1048576):ln (nd (zs.drop k)).1≤2097153∧ln (nd (zs.drop k)).2≤2097153:=by
 have e:(ms.drop k).sum≤ms.sum:=by
  have:ms.sum=(ms.take k).sum+(ms.drop k).sum:=by rw [←List.sum_append,List.take_append_drop]
  omega
 have:=MX (zs.drop k) (ms.drop k) (by rw [iK,iK,h.len,h.mlen]) (fun i hi=>by
  rw [iK,h.len] at hi
  have:=h.ln (k+i) i9
  simpa [bL,nO] using this)
 have f:(zs.drop k).length≤n:=by rw [iK,h.len];omega
 omega
theorem tY (h:i<zs.length:=by omega):zs.drop i=zs.getD i 0::zs.drop (i+1):=by
 rw [pF h,bL,cT h];rfl
end
section
structure RecI (m r x y t u:Int):Prop where
 y0:0≤y
 yx:y<x
 xm:x≤m
 cx:m∣x-t*r
 cy:m∣y-u*r
 det:x.natAbs*u.natAbs+y.natAbs*t.natAbs=m.natAbs
 sg:t*u≤0
 u0:u≠0
 tb:t.natAbs≤m.natAbs
theorem RecI.init {m:Int}(hm:0<m):RecI m r m.natAbs (r%m) 0 1:=by
 have e:(m.natAbs:Int)=m:=by omega
 rw [e];refine⟨kS _ i9,Int.emod_lt_of_pos _ hm,Int.le_refl _,by simp,?_,by simp,by decide,by decide,by simp⟩;have:=Int.mul_ediv_add_emod r m;refine⟨-(r/m),?_⟩;rw [Int.mul_neg];omega
theorem RecI.step {m t:Int}(h:RecI m r x y t u)(hy:0<y):RecI m r y (x.tmod y) u (t-x.tdiv y*u):=by
 have hx:0≤x:=by have:=h.yx;omega
 have e:=Int.tdiv_mul_add_tmod x y;have nn:=Int.tmod_nonneg y hx;have E:0≤x.tdiv y:=Int.tdiv_nonneg hx h.y0;have o:x.tmod y<y:=Int.tmod_lt_of_pos _ hy;have f:=Z4 h.sg E
 have G:1≤x.tdiv y:=by
  refine Classical.byContradiction (fun _=>?_)
  have h0:x.tdiv y=0:=by omega
  rw [h0,Int.zero_mul,Int.zero_add] at e
  have:=h.yx
  omega
 refine⟨nn,o,by have:=h.yx;have:=h.xm;omega,h.cy,?_,?_,?_,?_,?_⟩
 ·have F:x.tmod y-(t-x.tdiv y*u)*r=(x-t*r)-x.tdiv y*(y-u*r):=by
   have:x.tmod y=x-x.tdiv y*y:=by omega
   rw [this];grind
  rw [F];exact Int.dvd_sub h.cx (Int.dvd_mul_of_dvd_right h.cy)
 ·rw [f,←h.det]
  have L:x.natAbs=(x.tdiv y).natAbs*y.natAbs+(x.tmod y).natAbs:=by
   rw [←Int.natAbs_mul,←Int.natAbs_add_of_nonneg (Int.mul_nonneg E h.y0) nn,e]
  rw [L]
  grind
 ·have I:u*(t-x.tdiv y*u)=t*u-x.tdiv y*(u*u):=by grind
  rw [I]
  have h1:0≤u*u:=by
   rcases Int.le_total 0 u with h | h
   ·exact Int.mul_nonneg h h
   ·exact Int.mul_nonneg_of_nonpos_of_nonpos h h
  have:=Int.mul_nonneg E h1;have:=h.sg;omega
 ·intro h0;rw [h0] at f;have h1:0<u.natAbs:=by have:=h.u0;omega
  have h2:0<(x.tdiv y).natAbs:=by omega
  have H:=Nat.mul_pos h2 h1;rw [Int.natAbs_zero] at f;omega
 have h1:=h.det;have h2:1≤x.natAbs:=by have:=h.yx;omega
 have H:u.natAbs≤x.natAbs*u.natAbs:=Nat.le_mul_of_pos_left _ h2;omega
end
section
open Go.RowKit
theorem RecI.ln_x {m t:Int}(h:RecI m r x y t u):ln x≤ln m:=fR (by have:=h.xm;have:=h.yx;have:=h.y0;omega)
theorem RecI.ln_y {m t:Int}(h:RecI m r x y t u):ln y≤ln m:=fR (by have:=h.xm;have:=h.yx;have:=h.y0;omega)
theorem RecI.ln_u {m t:Int}(h:RecI m r x y t u)(_:0<m):ln u≤ln m:=fR (by
 have h1:=h.det
 have h2:1≤x.natAbs:=by have:=h.yx;have:=h.y0;omega
 have f:u.natAbs≤x.natAbs*u.natAbs:=Nat.le_mul_of_pos_left _ h2
 omega)
theorem RecI.ln_t {m t:Int}(h:RecI m r x y t u)(_:0<m):ln t≤ln m:=fR h.tb
theorem K9:∀X:Nat,∃r,IsRoot X 2 r
 | 0=>⟨0,by decide,by decide⟩
 | X+1=>by
  obtain⟨r,h1,h2⟩:=K9 X
  by_cases h:X+1<(r+1)^2
  ·exact⟨r,by omega,h⟩
  ·refine⟨r+1,by omega,?_⟩
   have o:(r+1)^2=(r+1)*(r+1):=Nat.pow_two _
   have f:(r+1+1)^2=(r+1)*(r+1)+2*(r+1)+1:=by rw [Nat.pow_two];grind
   omega
noncomputable def K7 (X:Nat):Nat:= @Classical.epsilon Nat ⟨0⟩ (IsRoot X 2)
theorem K6 (X:Nat):IsRoot X 2 (K7 X):= @Classical.epsilon_spec_aux Nat ⟨0⟩ (IsRoot X 2) (K9 X)
noncomputable def rK (m:Int):Nat:=K7 ((m.natAbs-1)/2)
theorem L0 {m:Int}(hm:0<m)(hX:X=(m.natAbs-1)/2)(h:IsRoot X 2 k):k=rK m:=by
 subst hX;exact IsRoot.uniq h (K6 _)
theorem a0I {m:Int}(hm:0<m):Int.natAbs ((m-1).tdiv 2)=(m.natAbs-1)/2:=by
 rw [Int.natAbs_tdiv];show (m-1).natAbs/2=_;congr 1;omega
theorem a0J {m:Int}(hm:0<m):Int.natAbs ((m-1)/2)=(m.natAbs-1)/2:=by omega
theorem XD {m:Int}(hm:0<m):rK m≤m.natAbs:=by
 have:=(K6 ((m.natAbs-1)/2)).le_self yd;unfold rK;omega
theorem xH {m:Int}(hm:0<m)(h:ln m≤N):ln ((rK m:Nat):Int)≤N:=a8 (fR (by have:=XD hm;omega)) h
def jD (k:Nat):Nat→Int→Int→Int→Int→Int×Int
 | 0,_,y,_,u=>(y,u)
 | f+1,x,y,t,u=>if (k:Int)<y then jD k f y (x.tmod y) u (t-x.tdiv y*u) else (y,u)
theorem KY (k:Nat):∀(f g:Nat) (x y t u:Int),0≤x→0≤y→y.toNat≤f→y.toNat≤g→jD k f x y t u=jD k g x y t u
 | 0,0,_,_,_,_,_,_,_,_=>rfl
 | 0,g+1,x,y,t,u,_,h0,h1,_=>by
  rw [jD,jD,if_neg i9]
 | f+1,0,x,y,t,u,_,h0,_,h2=>by
  rw [jD,jD,if_neg i9]
 | f+1,g+1,x,y,t,u,hx,h0,h1,h2=>by
  rw [jD,jD]
  split
  ·rename_i hk
   have ha:0≤x.tmod y:=Int.tmod_nonneg y hx
   have hb:=nS (x:=x) (y:=y) i9
   exact KY k f g y (x.tmod y) u _ h0 ha i9 i9
  ·rfl
theorem KW {t:Int}{p:Int×Int}(hx:0≤x)(hy:(k:Int)<y)(h:jD k y.toNat x y t u=p):jD k (x.tmod y).toNat y (x.tmod y) u (t-x.tdiv y*u)=p:=by
 obtain⟨j,f⟩:∃j,y.toNat=j+1:=⟨y.toNat-1,by omega⟩;have o:0≤x.tmod y:=Int.tmod_nonneg y hx;have hb:=nS (x:=x) (y:=y) i9;rw [f,jD,if_pos hy] at h;rw [←h];exact KY k _ _ _ _ _ _ i9 o (aU _) i9
theorem KX {t:Int}{p:Int×Int}(hy:¬(k:Int)<y)(h:jD k y.toNat x y t u=p):p=(y,u):=by
 rw [←h];cases y.toNat with
 | zero=>rfl
 | succ j=>rw [jD,if_neg hy]
noncomputable def oQ (m r:Int):Int×Int:=jD (rK m) (r%m).toNat m (r%m) 0 1
noncomputable def jO (m r:Int):Int×Int:=if (oQ m r).2<0 then (-(oQ m r).1,-(oQ m r).2) else oQ m r
theorem KV {m:Int}(h:oQ m r=(y,u))(hu:u<0):jO m r=(-y,-u):=by unfold jO;rw [h,if_pos hu]
theorem KU {m:Int}(h:oQ m r=(y,u))(hu:¬u<0):jO m r=(y,u):=by unfold jO;rw [h,if_neg hu]
def tF (m k y u:Int):Prop:=¬k<u∧Int.gcd y u=1∧Int.gcd u m=1
instance (m k y u:Int):Decidable (tF m k y u):=by unfold tF;infer_instance
noncomputable def kW (m r:Int):Int:=if 0<m∧tF m (rK m) (jO m r).1 (jO m r).2 then (jO m r).1 else 0
noncomputable def kX (m r:Int):Int:=if 0<m∧tF m (rK m) (jO m r).1 (jO m r).2 then (jO m r).2 else 0
noncomputable def kB (m r:Int):Int:=if 0<m then if tF m (rK m) (jO m r).1 (jO m r).2 then 0 else 6 else 3
theorem KT {m:Int}(h:¬0<m):kW m r=0∧kX m r=0∧kB m r=3:=by
 unfold kW kX kB;rw [if_neg (fun hc=>h hc.1),if_neg (fun hc=>h hc.1),if_neg h];exact⟨rfl,rfl,rfl⟩
theorem XC {m:Int}(hm:0<m)(hs:jO m r=(y,u))(h:¬tF m (rK m) y u):kW m r=0∧kX m r=0∧kB m r=6:=by
 unfold kW kX kB;rw [hs,if_neg (fun hc=>h hc.2),if_neg (fun hc=>h hc.2),if_pos hm,if_neg h];exact⟨rfl,rfl,rfl⟩
theorem XB {m:Int}(hm:0<m)(hs:jO m r=(y,u))(h:tF m (rK m) y u):kW m r=y∧kX m r=u∧kB m r=0:=by
 unfold kW kX kB;rw [hs,if_pos ⟨hm,h⟩,if_pos ⟨hm,h⟩,if_pos hm,if_pos h];exact⟨rfl,rfl,rfl⟩
theorem X9 {m:Int}(hm:0<m):jD (rK m) (r%m).toNat (m.natAbs:Int) (r%m) 0 1=oQ m r:=by unfold oQ;rw [show (m.natAbs:Int)=m by omega]
theorem RecI.init8 {m:Int}(hm:0<m):RecI m r m (r%m) 0 1:=by
 have h:=RecI.init (r:=r) hm;rw [show (m.natAbs:Int)=m by omega] at h;exact h
theorem RecI.x0 {m t:Int}(h:RecI m r x y t u):0≤x:=by have:=h.y0;have:=h.yx;omega
theorem ZW (h:ln x≤N):ln (x.tdiv y)≤N:=a8 (fR (by rw [Int.natAbs_tdiv];exact gN _ _)) h
theorem ZV (hy:y≠0)(h:ln y≤N):ln (x.tmod y)≤N:=a8 (fR (Nat.le_of_lt (nS (x:=x) hy))) h
def Gd (b:Bool)(R:aF→a6→Prop):aF→a6→Prop:=match b with
 | true=>Is undef
 | false=>R
theorem JF {c:Bool}(h:c=decide (y<x)):cQ .gtr (bM x y) 0=some c:=by
 subst h;by_cases k:y<x
 ·rw [decide_eq_true k];exact AB k
 rw [decide_eq_false k];exact AC
theorem zU {c:Bool}(h:c=decide (x≠y)):cQ .neq (bM x y) 0=some c:=by
 subst h;by_cases k:x=y
 ·rw [decide_eq_false (fun h=>h k)];exact rJ k
 rw [decide_eq_true k];exact qI k
section
variable {m r y u:Int}{ck cy cu:Bool}
theorem KR (hm:0<m)(hs:jO m r=(y,u))(h1:ck=decide (((rK m:Nat):Int)<u))(h2:cy=decide ((Int.gcd y u:Int)≠1))(h3:cu=decide ((Int.gcd u m:Int)≠1))(hb:ck=true∨cy=true∨cu=true):kW m r=0∧kX m r=0∧kB m r=6:=XC hm hs fun hc=>by
 rcases hb with h | h | h
 ·rw [h1,decide_eq_true_iff] at h;exact hc.1 h
 ·rw [h2,decide_eq_true_iff] at h;exact h (by exact_mod_cast hc.2.1)
 ·rw [h3,decide_eq_true_iff] at h;exact h (by exact_mod_cast hc.2.2)
theorem KS (hm:0<m)(hs:jO m r=(y,u))(h1:ck=decide (((rK m:Nat):Int)<u))(h2:cy=decide ((Int.gcd y u:Int)≠1))(h3:cu=decide ((Int.gcd u m:Int)≠1))(hb:ck=false∧cy=false∧cu=false):kW m r=y∧kX m r=u∧kB m r=0:=by
 obtain⟨a,b,c⟩:=hb;rw [h1,decide_eq_false_iff_not] at a;rw [h2,decide_eq_false_iff_not,Decidable.not_not] at b;rw [h3,decide_eq_false_iff_not,Decidable.not_not] at c;exact XB hm hs ⟨a,by exact_mod_cast b,by exact_mod_cast c⟩
end
theorem tO:(Tryz.prog.info? 3).map (fun i=>(i.zero,i.size,i.bytes))=some (some (no 0),1,8):=by kernel_rfl
abbrev I6 (x:Nat):aF:= no (x:Int)
theorem tH (xs:List Nat)(i x:Nat):(xs.map I6).set i (no (x:Int))=(xs.set i x).map I6:=by rw [List.map_set]
theorem AJ (n:Nat):dF n (eL .i64 0)=(dF n 0).map I6:=by rw [List.map_replicate];rfl
structure Ri (b:Nat)(w:a6)(A:Option a7)(n cap:Nat)(ds:List Nat):Prop where
 rv:Rv w 1 A n cap (ds.map I6)
 wf:Wfb b ds
theorem Ri.ext (h:Ri b w A n cap xs)(e:Ext w w'):Ri b w' A n cap xs:=⟨h.rv.ext e,h.wf⟩
theorem Ri.len (h:Ri b w A n cap xs):xs.length=n:=by simpa using h.rv.len
theorem Ri.get (hb:0<b)(h:Ri b w A n cap xs)(hi:i<n):∃a x,A=some a∧Hid (xs.getD i 0=x)∧x<b∧w.cell? (a.add i)=some (no (x:Int)):=by
 obtain⟨a,f,hc⟩:=h.rv.get i i9;have hl:i<xs.length:=by rw [h.len];exact hi
 refine⟨a,_,f,rfl,jK h.wf i (hb:=hb),?_⟩;rw [hc];simp [bL,jM,cT hl]
theorem Bk.digit (hb:0<b)(h:Bk w g t (xs.map I6))(hw:Wfb b xs)(hi:i<xs.length):∃x,Hid (xs.getD i 0=x)∧x<b∧w.cell? ⟨g,i,none⟩=some (no (x:Int)):=by
 refine⟨_,rfl,jK hw i (hb:=hb),?_⟩;rw [h.cell (by simpa using hi)];simp [bL,jM,cT hi]
theorem Bk.ri (h:Bk w g t (xs.map I6))(hw:Wfb b xs){o:Nat}(hn:n≤cap)(hc:o+cap≤xs.length)(hm:cap≤maxLen):Ri b w (some ⟨g,o,none⟩) n cap ((xs.drop o).take n):=by
 refine⟨?_,lH (GL hw _) _⟩;rw [m6,wP];exact h.rv hn (by simpa using hc) hm
theorem Rv.take {s:Nat}(h:Rv w s A n cap vs)(hk:k≤n)(hm:k≤m)(hc:m≤cap):Rv w s A k m (vs.take (k*s)):=by
 have:=h.cut (l:=0) (bX _) hk hm hc;simp only [Nat.sub_zero,wL,iN] at this
 have e:(if m=0 then A else A.map (·.add 0))=A:=by
  have h0:∀a:a7,a.add 0=a:=fun a=>by simp [pI]
  split
  ·rfl
  ·cases A <;> simp [h0]
 rwa [e] at this
theorem Own.take {s:Nat}(h:Own w base t s A n cap vs)(hk:k≤n):Own w base t s A k cap (vs.take (k*s)):=by
 rcases h with⟨rfl,rfl,rfl,rfl⟩ | ⟨g,cs,rfl,hb,f,hn,hm,hl,rfl⟩
 ·exact cJ ⟨rfl,by omega,rfl,by simp⟩
 refine cN ⟨g,cs,rfl,hb,f,by omega,hm,hl,?_⟩;rw [List.take_take,iJ (fC s hk)]
def GR (w:a6)(m:Nat)(e:eF)(w':a6):Prop:=
 ∃A n cap,e= .returned (up A n cap)∧Hid (n=(db 65536 m).length)∧Ri 65536 w' A n cap (db 65536 m)∧Own w' w.heap.size 3 1 A n cap ((db 65536 m).map I6)∧Ext w w'
theorem iR:2≤65536:=by decide
theorem uC:WB=65536^4:=by decide
def a3W (A:Option a7)(n cap:Nat)(m:Nat)(w:a6)(e:eF)(w':a6):Prop:=
 ∃k:Nat,Hid (k=(db 65536 m).length)∧k≤n∧e= .returned (up A k cap)∧w=w'
theorem KM (hx:Ri 65536 w A n cap ds)(hl:n≤1099511627776):aQ aM 154 #[up A n cap] w (a3W A n cap (nb 65536 ds) w):=by
 have hlen:=Lib.hid hx.len;have hcap:=hx.rv.le
 go_enter Tryz.func154,Tryz.ntmps154
 go_wp2_with fail
 go_loop [3] (fun u=>∃k:Nat,k≤n∧u= no (k:Int)∧nb 65536 (ds.take k)=nb 65536 ds) (fun u=>(intOf u).toNat)
 case atStart=>exact⟨n,aU _,rfl,by rw [←hlen.out,List.take_length]⟩
 case round=>
  obtain⟨k,hk,rfl,hv⟩:=hrel
  have HV:=Lib.hid hv
  clear hv
  by_cases h0:0<k
  ·obtain⟨a,x,rfl,hxk,hxb,hc⟩:=hx.get i9 (i:=k-1) i9
   by_cases hz:x=0
   ·subst hz
    go_wp2_with fail
    go_round
    case rel=>
     refine⟨k-1,by omega,by congr 1;omega,?_⟩
     rw [←HV.out,←B3 65536 ds (k-1) (by rw [hlen.out];omega) hxk.out,lJ h0]
    case measure=>simp [intOf];omega
   ·have hzb:((x:Int)==0)=false:=by simp;omega
    go_wp2_with fail
    go_ret
    refine⟨k,?_,hk,?_,rfl⟩
    ·have:=BZ iR (k:=k) hx.wf (by rw [hlen.out];exact hk) HV.out (cN (by rw [hxk.out];exact hz))
     show k=_
     rw [this,eB,hlen.out];omega
    ·rfl
  ·go_wp2_with fail
   go_ret
   refine⟨k,?_,hk,?_,rfl⟩
   ·have:=BZ iR (k:=k) hx.wf (by rw [hlen.out];exact hk) HV.out (cJ i9)
    show k=_
    rw [this,eB,hlen.out];omega
   ·rfl
theorem UL {x w:Nat}(hl:ds.length=n)(h:nb 65536 ds+65536^n*w=x):nb 65536 (ds++ [w%65536])+65536^(n+1)*(w/65536)=x:=by
 rw [EQ,hl,dS,cU,k8,←dE,kF];exact h
theorem tE (hx:Rd w A n cap xs)(hl:n≤274877906943):aQ aM 130 #[up A n cap] w (GR w (nv xs)):=by
 have hlx:=Lib.hid hx.len;have hmk:=K0 (P:=aM) Tryz.underlying88 tO J yd (4*(n:Int)) i9 i9;have et:(4*(n:Int)).toNat=4*n:=by omega
 rw [et] at hmk;clear et
 go_enter Tryz.func130,Tryz.ntmps130
 go_wp2_with fail
 clear hmk;obtain⟨g,hg⟩:∃g,w.heap.size=g:=⟨_,rfl⟩;rw [hg];obtain⟨wa,hwa⟩:∃wa,w.alloc (.cells (zc (.int .i64 0) (4*n)) 3)=wa:=⟨_,rfl⟩;rw [hwa]
 have hoa:Own wa w.heap.size 3 1 (some ⟨g,0,none⟩) 0 (4*n) (([]:List Nat).map I6):=by
  rw [←hwa,←hg]
  exact Own.mk_ (cs:=dF (4*n) (no 0)) (aU _) (Bk.new' _ _ _) i9 (by rw [eV];omega) ym ym
 have hea:Ext w wa:=by rw [←hwa];exact (Ext.refl w).alloc _
 clear hg hwa
 go_loopw [4,3] (fun u v wr=>∃(i:Nat) (A':Option a7) (c':Nat) (ds:List Nat),i≤n∧u= no (i:Int)∧v= up A' (4*i) c'∧Own wr w.heap.size 3 1 A' (4*i) c' (ds.map I6)∧Wfb 65536 ds∧
  Hid (ds.length=4*i)∧Hid (nb 65536 ds=nv (xs.take i))∧Ext w wr) (fun u v wr=>n-(intOf u).toNat)
 case atStart=>exact⟨0,_,_,[],bX _,rfl,rfl,hoa,GK _,rfl,rfl,hea⟩
 case round=>
  obtain⟨i,A',c',ds,hi,rfl,rfl,ho,hw,hdl,hv,hr⟩:=hrel
  clear hoa hea
  by_cases him:i<n
  ·obtain⟨a,x,rfl,hxk,hxb,hcx⟩:=(hx.ext hr).get (i:=i) i9
   go_wp2_with fail
   obtain⟨wo,rfl⟩:∃wo:a6,wo=wr:=⟨_,rfl⟩
   go_loopw [6,3,5] (fun u v y wr=>∃(k:Nat) (A':Option a7) (c':Nat) (ds:List Nat) (q:Nat),k≤4∧u= no (k:Int)∧v= up A' (4*i+k) c'∧y= t9 (q:Int)∧q≤18446744073709551615∧Own wr w.heap.size 3 1 A' (4*i+k) c' (ds.map I6)∧Wfb 65536 ds∧
    Hid (ds.length=4*i+k)∧Hid (nb 65536 ds+65536^(4*i+k)*q=nv (xs.take (i+1)))∧Hid (q*65536^k<WB)∧Ext w wr) (fun u v y wr=>4-(intOf u).toNat)
   case atStart=>
    refine⟨0,_,_,ds,x,bX _,rfl,rfl,rfl,hxb,ho,hw,hdl,?_,?_,hr⟩
    ·show _=_
     rw [hv.out,gA xs i (by rw [hlx.out];omega),hxk.out,uC,←Nat.pow_mul];rfl
    ·show _<_
     rw [dJ];omega
   case round=>
    obtain⟨k,A2,c2,es,q,hk,rfl,rfl,rfl,hqb,ho2,hw2,hel,hev,hq,hr2⟩:=hrel
    clear ho hw hdl hv
    by_cases hk4:k<4
    ·have r1:(4*i+k+1)*8≤140737488355328:=by omega
     go_wp2_with ((with_reducible refine dU (some 30) ?_);refine I5 J (.tmp 25) (.tmp 29) 88 J J J Tryz.underlying88 tO J yd (ho2.ext ((Ext.refl _).alloc _)) (Rv.one _ _ _) (by simp [Value.oneCell']) r1 (by rw [eV];omega) (by have:=hr2.size;simp;omega) ?_;intro A3 c3 w3 ho3 hu3 _)
     have he3:Ext w w3:=hu3.ext (hr2.alloc _) (fun p hp=>(ho2.block p hp).1)
     go_roundw
     case rel=>
      refine⟨k+1,A3,c3,es++ [q%65536],q/65536,by omega,by go_num,rfl,by go_num,by omega,?_,CC hw2 (a3V i9),?_,UL hel.out hev.out,?_,he3⟩
      ·have:(es++ [q%65536]).map I6=es.map I6++ [no ((q:Int)%65536)]:=by simp
       rw [this];exact ho3
      ·show _=_
       rw [f8,hel.out];rfl
      ·show _<_
       have h2:q/65536*65536≤q:=Nat.div_mul_le_self q 65536
       calc q/65536*65536^(k+1)=(q/65536*65536)*65536^k:=by rw [dS,dH (65536^k),cU]
        _≤q*65536^k:=fC _ h2
        _<WB:=hq.out
     case measure=>simp [intOf];omega
    ·obtain rfl:k=4:=by omega
     have hq0:q=0:=by
      have h:=hq.out
      rw [dJ] at h
      omega
     go_wp2_with fail
     go_roundw
     case rel=>
      refine⟨i+1,A2,c2,es,by omega,by go_num,rfl,ho2,hw2,hel.out,?_,hr2⟩
      show _=_
      have h:=hev.out
      rw [hq0,iV,fN] at h
      exact h
     case measure=>simp [intOf];omega
  ·obtain rfl:i=n:=by omega
   have hri:Ri 65536 wr A' (4*i) c' ds:=⟨ho.rv,hw⟩
   go_wp2_with fail
   refine (KM hri i9).mono ?_
   rintro e w' ⟨k,hk,hkn,rfl,rfl⟩
   go_wp2_with fail
   go_ret
   have e:nb 65536 ds=nv xs:=by rw [hv.out,←hlx.out,List.take_length]
   have e2:=FZ iR hw hk.out
   rw [e] at e2
   have hot:=ho.take hkn
   rw [eH,←m6,←e2] at hot
   refine⟨A',k,c',rfl,?_,⟨hot.rv,lQ iR _⟩,hot,hr⟩
   show _=_
   rw [hk.out,e]
theorem AM (hx:Ri 65536 w A n cap ds)(hl:n≤1099511627775):aQ aM 132 #[up A n cap] w (jR w (nb 65536 ds)):=by
 go_enter Tryz.func132,Tryz.ntmps132
 go_wp2_with fail
 refine (KM hx i9).mono ?_;rintro e w' ⟨k,hk,hkn,rfl,rfl⟩;obtain⟨es,hes⟩:∃es,es=db 65536 (nb 65536 ds):=⟨_,rfl⟩;have hes2:es=ds.take k:=by rw [hes];exact FZ iR hx.wf hk.out
 have hlen:=Lib.hid hx.len
 have he:Ri 65536 w A k cap es:=by
  have h:=hx.rv.take (k:=k) (m:=cap) hkn (by have:=hx.rv.le;omega) (aU _)
  rw [eH,←m6,←hes2] at h
  exact⟨h,by rw [hes2];exact lH hx.wf _⟩
 have hel:=Lib.hid he.len;have hval:Hid (nb 65536 es=nb 65536 ds):=by show _=_;rw [hes,iS iR]
 have htop:Hid (k=0∨65536^(k-1)≤nb 65536 ds):=by
  by_cases h0:nb 65536 ds=0
  ·left
   have h:=hk.out
   rw [h0,lC] at h
   exact h
  ·right
   have:=LH iR h0
   rwa [←hk.out] at this
 clear hes hes2 hk;have hmk:=K0 (P:=aM) Tryz.underlying22 j9 J yd ((k:Int)/4+1) i9 i9;have et:((k:Int)/4+1).toNat=k/4+1:=by omega
 rw [et] at hmk;clear et
 go_wp2_with fail
 clear hmk;obtain⟨g,hg⟩:∃g,w.heap.size=g:=⟨_,rfl⟩;rw [hg];obtain⟨wa,hwa⟩:∃wa,w.alloc (.cells (zc (.int .u64 0) (k/4+1)) 43)=wa:=⟨_,rfl⟩;rw [hwa]
 have hoa:Own wa w.heap.size 43 1 (some ⟨g,0,none⟩) 0 (k/4+1) (([]:List Nat).map bF):=by
  rw [←hwa,←hg]
  exact Own.mk_ (cs:=dF (k/4+1) (t9 0)) (aU _) (Bk.new' _ _ _) i9 (by rw [eV];omega) ym ym
 have hea:Ext w wa:=by rw [←hwa];exact (Ext.refl w).alloc _
 clear hg hwa
 go_loopw [4,3] (fun u v wr=>∃(i:Nat) (A':Option a7) (c':Nat) (ws:List Nat),4*i≤k+3∧u= no (4*(i:Int))∧v= up A' i c'∧Own wr w.heap.size 43 1 A' i c' (ws.map bF)∧Wf ws∧
  Hid (ws.length=i)∧Hid (nv ws=nb 65536 (es.take (4*i)))∧Ext w wr) (fun u v wr=>k+4-(intOf u).toNat)
 case atStart=>exact⟨0,_,_,[],by omega,rfl,rfl,hoa,QK,rfl,rfl,hea⟩
 case round=>
  obtain⟨i,A',c',ws,hi,rfl,rfl,ho,hw,hwl,hv,hr⟩:=hrel
  clear hoa hea
  by_cases him:4*i<k
  ·go_wp2_with fail
   obtain⟨wo,rfl⟩:∃wo:a6,wo=wr:=⟨_,rfl⟩
   go_loop [6,5] (fun u v=>∃(j q:Nat),j≤4∧u= no ((j:Int)-1)∧v= t9 (q:Int)∧Hid (q=nb 65536 ((es.drop (4*i+j)).take (4-j)))) (fun u v=>(intOf u+1).toNat)
   case atStart=>exact⟨4,0,aU _,rfl,rfl,by simp [Hid,nb]⟩
   case round=>
    obtain⟨j,q,hj,rfl,rfl,hq⟩:=hrel
    have hqlt:q<65536^(4-j):=by
     rw [hq.out]
     have h1:=qN (lH (GL he.wf (4*i+j)) (4-j))
     have h2:65536^(List.take (4-j) (List.drop (4*i+j) es)).length≤65536^(4-j):=fZ i9 (by rw [eB];omega)
     omega
    by_cases hj0:0<j
    ·have hqb:q≤281474976710655:=by
      have:(65536:Nat)^(4-j)≤65536^3:=fZ i9 i9
      omega
     clear hqlt
     have hstep:Hid (es.getD (4*i+(j-1)) 0+65536*q=nb 65536 ((es.drop (4*i+(j-1))).take (4-(j-1)))):=by
      show _=_
      have e2:4-(j-1)=(4-j)+1:=by omega
      have e3:4*i+(j-1)+1=4*i+j:=by omega
      rw [e2,M9,e3,hq.out]
     by_cases hin:4*i+(j-1)<k
     ·obtain⟨a,x,rfl,hxk,hxb,hcx⟩:=(he.ext hr).get i9 (i:=4*i+(j-1)) i9
      have hin':4*(i:Int)+((j:Int)-1)<(k:Int):=by omega
      go_wp2_with fail
      go_round
      case rel=>exact⟨j-1,x+65536*q,by omega,gW,gW,by show _=_;rw [←hstep.out,hxk.out]⟩
      case measure=>simp [intOf];omega
     ·have hin':¬4*(i:Int)+((j:Int)-1)<(k:Int):=by omega
      go_wp2_with fail
      go_round
      case rel=>exact⟨j-1,65536*q,by omega,gW,gW,by show _=_;rw [←hstep.out,bL,jT (by rw [hel.out];omega)];simp⟩
      case measure=>simp [intOf];omega
    ·obtain rfl:j=0:=by omega
     have hqW:q<WB:=by rw [uC];exact hqlt
     clear hqlt
     have r1:(i+1)*8≤140737488355328:=by omega
     go_wp2_with ((with_reducible refine dU (some 44) ?_);refine I5 J (.tmp 41) (.tmp 43) 22 J J J Tryz.underlying22 j9 J yd (ho.ext ((Ext.refl _).alloc _)) (Rv.one _ _ _) (by simp [Value.oneCell']) r1 (by rw [eV];omega) (by have:=hr.size;simp;omega) ?_;intro A3 c3 w3 ho3 hu3 _)
     have he3:Ext w w3:=hu3.ext (hr.alloc _) (fun p hp=>(ho.block p hp).1)
     go_roundw
     case rel=>
      refine⟨i+1,A3,c3,ws++ [q],by omega,gW,rfl,?_,yL hw (GM hqW),?_,?_,he3⟩
      ·have:(ws++ [q]).map bF=ws.map bF++ [t9 (q:Int)]:=by simp
       rw [this];exact ho3
      ·show _=_
       rw [f8,hwl.out];rfl
      ·show _=_
       rw [M0,hwl.out,hv.out,show 4*(i+1)=4*i+4 from by omega,M8 65536 es (4*i) 4 (by rw [hel.out];omega),hq.out,uC,←Nat.pow_mul]
       rfl
     case measure=>simp [intOf];omega
  ·go_wp2_with fail
   go_ret
   have e1:nv ws=nb 65536 ds:=by rw [hv.out,List.take_of_length_le (by rw [hel.out];omega),hval.out]
   have e2:wd (nv ws)=ws:=by
    refine IG hw ?_
    rw [hwl.out,e1]
    by_cases h0:i=0
    ·exact cJ h0
    ·refine cN ?_
     rcases htop.out with h | h
     ·omega
     ·refine a8 ?_ h
      rw [uC,←Nat.pow_mul]
      exact fZ i9 i9
   rw [←e1]
   rw [←e2] at ho
   refine⟨A',i,c',rfl,?_,ho.rd (by rw [e2];exact hw),ho,hr⟩
   show _=_
   rw [e2,hwl.out]
theorem KN {x y:Nat}(hx:Ri 65536 w A n cap (db 65536 x))(hl:n≤1099511627776)(hy:Ri 65536 w B n' cap' (db 65536 y))(hl':n'≤1099511627776):aQ aM 133 #[up A n cap,up B n' cap'] w (yS x y w):=by
 have hlx:=Lib.hid hx.len;have hly:=Lib.hid hy.len;rcases Nat.lt_trichotomy n n' with hlt | rfl | hgt
 ·have h1:((n:Int) != (n':Int))=true:=by simp;omega
  go_enter Tryz.func133,Tryz.ntmps133
  go_wp2_with fail
  go_ret
  exact q6 (C3 (MK iR (by rw [hlx.out,hly.out];exact hlt))) bN
 ·have h1:((n:Int) != (n:Int))=false:=by simp
  obtain⟨ds,hds⟩:∃ds,ds=db 65536 x:=⟨_,rfl⟩;obtain⟨es,hes⟩:∃es,es=db 65536 y:=⟨_,rfl⟩;have hvx:=Lib.hid (show nb 65536 ds=x by rw [hds,iS iR]);have hvy:=Lib.hid (show nb 65536 es=y by rw [hes,iS iR]);rw [←hds] at hx hlx;rw [←hes] at hy hly;clear hds hes
  go_enter Tryz.func133,Tryz.ntmps133
  go_wp2_with fail
  go_loopw [5] (fun u wr=>∃i:Nat,i≤n∧u= no ((i:Int)-1)∧Hid (fA (nb 65536 (ds.take i)) (nb 65536 (es.take i))=fA x y)∧Ext w wr) (fun u wr=>(intOf u+1).toNat)
  case atStart=>exact⟨n,aU _,rfl,(show _=_ by rw [List.take_of_length_le (by rw [hlx.out];omega),List.take_of_length_le (by rw [hly.out];omega),hvx.out,hvy.out]),Ext.refl w⟩
  case round=>
   obtain⟨i,hi,rfl,hv,hext⟩:=hrel
   by_cases h0:0<i
   ·obtain⟨a,p,rfl,hxk,hxb,hc⟩:=(hx.ext hext).get i9 (i:=i-1) i9
    obtain⟨b,q,rfl,hyk,hyb,hd⟩:=(hy.ext hext).get i9 (i:=i-1) i9
    have hi':i-1+1=i:=by omega
    have hcast:((i-1:Nat):Int)=(i:Int)-1:=by omega
    have b1:(0:Int)≤(i:Int)-1:=by omega
    rcases Nat.lt_trichotomy p q with hlt | rfl | hgt
    ·go_wp2_with fail
     go_quiet (fail)
     go_wp2_with fail
     go_ret
     refine q6 ?_ yn
     rw [←hv.out,←hi']
     exact C3 (M6 i9 hx.wf (by rw [hlx.out];omega) (by rw [hly.out];omega) (by rw [hxk.out,hyk.out];exact hlt))
    ·go_wp2_with fail
     go_quiet (fail)
     go_wp2_with fail
     go_quiet (fail)
     go_wp2_with fail
     go_roundw
     case rel=>
      refine⟨i-1,by omega,by congr 1;omega,?_,yn⟩
      show _=_
      rw [←hv.out,←a2P (k:=i-1) (by rw [hlx.out];omega) (by rw [hly.out];omega) (by rw [hxk.out,hyk.out]),hi']
     case measure=>simp [intOf];omega
    ·go_wp2_with fail
     go_quiet (fail)
     go_wp2_with fail
     go_quiet (fail)
     go_wp2_with fail
     go_ret
     refine q6 ?_ yn
     rw [←hv.out,←hi']
     exact C4 (M6 i9 hy.wf (by rw [hly.out];omega) (by rw [hlx.out];omega) (by rw [hxk.out,hyk.out];exact hgt))
   ·go_wp2_with fail
    go_ret
    refine q6 ?_ hext
    rw [←hv.out,show i=0 from by omega]
    simp [PS]
 have h1:((n:Int) != (n':Int))=true:=by simp;omega
 go_enter Tryz.func133,Tryz.ntmps133
 go_wp2_with fail
 go_ret
 exact q6 (C4 (MK iR (by rw [hlx.out,hly.out];exact hgt))) bN
theorem rS (hw:Wf xs):(db 65536 (nv xs)).length≤4*xs.length:=by
 refine lY iR ?_;have:=kH hw;rwa [uC,←Nat.pow_mul] at this
theorem X4 (hx:Rd w A n cap xs)(hl:n≤274877906943):aQ aM 126 #[up A n cap] w (jR w (nv xs)):=by
 go_enter Tryz.func126,Tryz.ntmps126
 go_wp2_with fail
 refine (tE hx hl).mono ?_;rintro e w1 ⟨A1,n1,c1,rfl,hn1,hr1,_,hx1⟩;have hb:n1≤1099511627775:=by have:=rS hx.wf;rw [hn1.out];rw [hx.len] at this;omega
 go_wp2_with fail
 refine (AM hr1 hb).mono ?_;rintro e w2 ⟨A2,n2,c2,rfl,hn2,hr2,ho2,hx2⟩
 go_wp2_with fail
 go_ret
 rw [iS iR] at hn2 hr2 ho2;exact⟨A2,n2,c2,rfl,hn2,hr2,ho2.mono hx1.size,hx1.trans hx2⟩
theorem X5 (hx:Rd w A n cap xs)(hl:n≤274877906943)(hy:Rd w B n' cap' ys)(hl':n'≤274877906943):aQ aM 101 #[up A n cap,up B n' cap'] w (yS (nv xs) (nv ys) w):=by
 go_enter Tryz.func101,Tryz.ntmps101
 go_wp2_with fail
 refine (tE hx hl).mono ?_;rintro e w1 ⟨A1,n1,c1,rfl,hn1,hr1,_,hx1⟩;have hb1:n1≤1099511627775:=by have:=rS hx.wf;rw [hn1.out];rw [hx.len] at this;omega
 go_wp2_with fail
 refine (tE (hy.ext hx1) hl').mono ?_;rintro e w2 ⟨A2,n2,c2,rfl,hn2,hr2,_,hx2⟩;have hb2:n2≤1099511627775:=by have:=rS hy.wf;rw [hn2.out];rw [hy.len] at this;omega
 go_wp2_with fail
 refine (KN (hr1.ext hx2) i9 hr2 i9).mono ?_;rintro e w3 ⟨c,hc,hc1,hc2,rfl,hx3⟩
 go_wp2_with fail
 go_ret
 exact⟨c,hc,hc1,hc2,rfl,(hx1.trans hx2).trans hx3⟩
theorem E9 (hx:Ri 65536 w A n cap ds)(hl:n≤1099511627776){i:Int}(h0:0≤i:=by omega)(hi:i≤4398046511104:=by omega):aQ aM 131 #[up A n cap,no i] w fun e w'=>∃x:Nat,Hid (x=ds.getD i.toNat 0)∧x≤65535∧e= .returned (no (x:Int))∧w=w':=by
 obtain⟨k,rfl⟩:=Int.eq_ofNat_of_zero_le h0;rw [jB];have hlx:=Lib.hid hx.len;by_cases hk:k<n
 ·obtain⟨a,x,rfl,hxk,hxb,hc⟩:=hx.get i9 (i:=k) hk
  go_enter Tryz.func131,Tryz.ntmps131
  go_wp2_with fail
  go_ret
  exact⟨x,hxk.out.symm,by omega,rfl,rfl⟩
 go_enter Tryz.func131,Tryz.ntmps131
 go_wp2_with fail
 go_ret
 refine⟨0,?_,by omega,rfl,rfl⟩;show _=_;rw [bL,jT (by rw [hlx.out];omega)];rfl
theorem M7 (b:Nat)(xs:List Nat)(k:Nat):nb b (xs.take (k+1))=nb b (xs.take k)+b^k*xs.getD k 0:=by
 by_cases h:k<xs.length
 ·exact jE b xs k h
 rw [List.take_of_length_le i9,List.take_of_length_le i9,bL,jT i9];simp
theorem a3Q {x y:Nat}(hli:i<l.length)(h:nb b (l.take i)+b^i*c=nb b (xs.take i)+nb b (ys.take i))(hx:x=xs.getD i 0)(hy:y=ys.getD i 0){s:Nat}(hs:s+b*d=x+y+c):nb b ((l.set i s).take (i+1))+b^(i+1)*d=nb b (xs.take (i+1))+nb b (ys.take (i+1)):=by
 have o:(l.set i s).getD i 0=s:=by simp [bL,hli]
 have f:(l.set i s).take i=l.take i:=by rw [List.take_set_of_le (aU i)]
 rw [jE b _ i (by rw [List.length_set];exact hli),o,f,M7 b xs i,M7 b ys i,←hx,←hy,dS,cU];have E:b^i*(s+b*d)=b^i*(x+y+c):=by rw [hs]
 simp only [dE] at E;omega
theorem X6 (hx:Rd w A n cap xs)(hl:n≤137438953471)(hy:Rd w B n' cap' ys)(hl':n'≤137438953471):aQ aM 100 #[up A n cap,up B n' cap'] w (jR w (nv xs+nv ys)):=by
 go_enter Tryz.func100,Tryz.ntmps100
 go_wp2_with fail
 refine (tE hx i9).mono ?_;rintro e w1 ⟨A1,p,c1,rfl,hp,hr1,_,hx1⟩;have hb1:p≤549755813888:=by have:=rS hx.wf;rw [hp.out];rw [hx.len] at this;omega
 go_wp2_with fail
 refine (tE (hy.ext hx1) i9).mono ?_;rintro e w2 ⟨A2,q,c2,rfl,hq,hr2,_,hx2⟩;have hb2:q≤549755813888:=by have:=rS hy.wf;rw [hq.out];rw [hy.len] at this;omega
 have hr1':=hr1.ext hx2;have hx12:=hx1.trans hx2;clear hr1 hx1 hx2;obtain⟨ds,hds⟩:∃ds,ds=db 65536 (nv xs):=⟨_,rfl⟩;obtain⟨es,hes⟩:∃es,es=db 65536 (nv ys):=⟨_,rfl⟩;have hvx:=Lib.hid (show nb 65536 ds=nv xs by rw [hds,iS iR]);have hvy:=Lib.hid (show nb 65536 es=nv ys by rw [hes,iS iR]);have hdl:=Lib.hid hr1'.len;have hel:=Lib.hid hr2.len;rw [←hds] at hr1' hdl;rw [←hes] at hr2 hel;clear hds hes hp hq hx hy
 go_upto_if 21 with (fail)
 go_cut [7] (fun u wc=>∃m:Nat,u= no (m:Int)∧p≤m∧q≤m∧m≤549755813888∧w2=wc)
 case first=>
  by_cases hlt:p<q
  ·go_wp2_with fail
   go_meet
   case rel=>exact⟨q,rfl,by omega,by omega,hb2,rfl⟩
  ·go_wp2_with fail
   go_meet
   case rel=>exact⟨p,rfl,by omega,by omega,hb1,rfl⟩
 case rest=>
  obtain⟨m,rfl,hpm,hqm,hmb,rfl⟩:=hcut
  have hmk:=mB (P:=aM) Tryz.underlying88 tO J yd ((m:Int)+1) i9 i9
  have et:((m:Int)+1).toNat=m+1:=by omega
  rw [et] at hmk
  clear et
  go_wp2_with fail
  clear hmk
  obtain⟨g,hg⟩:∃g,w2.heap.size=g:=⟨_,rfl⟩
  rw [hg]
  obtain⟨wa,hwa⟩:∃wa,w2.alloc (.cells (zc (.int .i64 0) (m+1)) 3)=wa:=⟨_,rfl⟩
  rw [hwa]
  have hbk:Bk wa g 3 ((dF (m+1) 0).map I6):=by
   rw [←hwa,←hg,←AJ];exact Bk.new' _ _ _
  have hea:Ext w2 wa:=by rw [←hwa];exact (Ext.refl w2).alloc _
  have hgs:w.heap.size≤g:=by rw [←hg];exact hx12.size
  have hgc:w2.heap.size≤g:=by rw [hg];exact aU _
  clear hg hwa
  go_loopw [10,9] (fun u v wr=>∃(i c:Nat) (l:List Nat),i≤m∧c≤1∧u= no (i:Int)∧v= no (c:Int)∧Hid (l.length=m+1)∧Wfb 65536 l∧Bk wr g 3 (l.map I6)∧
   Hid (nb 65536 (l.take i)+65536^i*c=nb 65536 (ds.take i)+nb 65536 (es.take i))∧Ext w2 wr) (fun u v wr=>m-(intOf u).toNat)
  case atStart=>exact⟨0,0,_,bX _,bX _,rfl,rfl,List.length_replicate,qW _ (hb:=i9),hbk,by simp [Hid,nb],hea⟩
  case round=>
   obtain⟨i,c,l,hi,hc,rfl,rfl,hll,hwl,hb,hv,hr⟩:=hrel
   clear hbk hea
   by_cases him:i<m
   ·obtain⟨o,ho,_,hco⟩:=hb.digit i9 hwl (i:=i) (by rw [hll.out];omega)
    have hfr:=hb.frozen i
    go_wp2_with fail
    refine (E9 (hr1'.ext hr) i9 (i:=(i:Int))).mono ?_
    rintro e w' ⟨x,hx,hxb,rfl,rfl⟩
    go_wp2_with fail
    refine (E9 (hr2.ext hr) i9 (i:=(i:Int))).mono ?_
    rintro e w' ⟨y,hy,hyb,rfl,rfl⟩
    rw [jB] at hx hy
    go_wp2_with fail
    go_roundw
    case rel=>
     have ec:((x:Int)+(y:Int)+(c:Int))%65536=(((x+y+c)%65536:Nat):Int):=by omega
     refine⟨i+1,(x+y+c)/65536,l.set i ((x+y+c)%65536),by omega,by omega,by go_num,gW,by show _=_;rw [List.length_set];exact hll.out,jJ hwl i,?_,
      a3Q (by rw [hll.out];omega) hv.out hx.out hy.out (kF _ _),hr.setCell hgc _⟩
     rw [←tH,ec];exact hb.set i _
    case measure=>simp [intOf];omega
   ·obtain rfl:i=m:=by omega
    obtain⟨o,ho,_,hco⟩:=hb.digit i9 hwl (i:=i) (by rw [hll.out];omega)
    have hfr:=hb.frozen i
    have hb2:=hb.set i (no (c:Int))
    rw [tH] at hb2
    have hll2:Hid ((l.set i c).length=i+1):=by show _=_;rw [List.length_set];exact hll.out
    have hwl2:Wfb 65536 (l.set i c):=jJ hwl i
    have hr3:Ri 65536 (wr.setCell ⟨g,i,none⟩ (no (c:Int))) (some ⟨g,0,none⟩) (i+1) (i+1) (l.set i c):=by
     have:=hb2.ri hwl2 (o:=0) (n:=i+1) (cap:=i+1) (aU _) (by rw [hll2.out];omega) (by rw [eV];omega)
     rwa [iN,List.take_of_length_le (by rw [hll2.out];omega)] at this
    have hval:Hid (nb 65536 (l.set i c)=nv xs+nv ys):=by
     show _=_
     have e1:(l.set i c).getD i 0=c:=by
      have:=hll.out
      simp [bL,this]
     have e2:(l.set i c).take i=l.take i:=by rw [List.take_set_of_le (aU i)]
     have e3:=jE 65536 (l.set i c) i (by rw [hll2.out];omega)
     rw [e1,e2,List.take_of_length_le (by rw [hll2.out];omega),hv.out,List.take_of_length_le (by rw [hdl.out];omega),List.take_of_length_le (by rw [hel.out];omega)] at e3
     rw [e3,hvx.out,hvy.out]
    go_wp2_with fail
    refine (AM hr3 i9).mono ?_
    rintro e w3 ⟨A3,n3,c3,rfl,hn3,hr4,ho4,hx3⟩
    go_wp2_with fail
    go_ret
    rw [hval.out] at hn3 hr4 ho4
    exact⟨A3,n3,c3,rfl,hn3,hr4,ho4.mono (by have:=hx12.size;have:=hr.size;simp;omega),((hx12.trans hr).setCell hgs _).trans hx3⟩
theorem a2v {x:Nat}(hl:n<l.length)(h:nb 65536 (l.take n)+65536^n*q=x):nb 65536 ((l.set n (q%65536)).take (n+1))+65536^(n+1)*(q/65536)=x:=by
 rw [pQ 65536 hl,dS,cU,k8,←dE,kF];exact h
theorem KL (hx:Rd w A n cap xs)(hl:n≤274877906943):aQ aM 128 #[up A n cap] w (GR w (nv xs)):=by
 have hlx:=Lib.hid hx.len;have hmk:=mB (P:=aM) Tryz.underlying88 tO J yd (4*(n:Int)) i9 i9;have et:(4*(n:Int)).toNat=4*n:=by omega
 rw [et] at hmk;clear et
 go_enter Tryz.func128,Tryz.ntmps128
 go_wp2_with fail
 clear hmk;obtain⟨g,hg⟩:∃g,w.heap.size=g:=⟨_,rfl⟩;rw [hg];obtain⟨wa,hwa⟩:∃wa,w.alloc (.cells (zc (.int .i64 0) (4*n)) 3)=wa:=⟨_,rfl⟩;rw [hwa]
 have hbk:Bk wa g 3 ((dF (4*n) 0).map I6):=by
  rw [←hwa,←hg,←AJ];exact Bk.new' _ _ _
 have hea:Ext w wa:=by rw [←hwa];exact (Ext.refl w).alloc _
 have hgs:w.heap.size≤g:=by rw [hg];exact aU _
 clear hg hwa
 go_loopw [4] (fun u wr=>∃(i:Nat) (l:List Nat),i≤n∧u= no (i:Int)∧Bk wr g 3 (l.map I6)∧Wfb 65536 l∧Hid (l.length=4*n)∧Hid (nb 65536 (l.take (4*i))=nv (xs.take i))∧Ext w wr) (fun u wr=>n-(intOf u).toNat)
 case atStart=>exact⟨0,_,bX _,rfl,hbk,qW _ (hb:=i9),List.length_replicate,rfl,hea⟩
 case round=>
  obtain⟨i,l,hi,rfl,hb,hw,hll,hv,hr⟩:=hrel
  clear hbk hea
  by_cases him:i<n
  ·obtain⟨a,x,rfl,hxk,hxb,hcx⟩:=(hx.ext hr).get (i:=i) i9
   go_wp2_with fail
   obtain⟨wo,rfl⟩:∃wo:a6,wo=wr:=⟨_,rfl⟩
   go_loopw [6,5] (fun u y wr=>∃(k:Nat) (l:List Nat) (q:Nat),k≤4∧u= no (k:Int)∧y= t9 (q:Int)∧q≤18446744073709551615∧Bk wr g 3 (l.map I6)∧Wfb 65536 l∧
    Hid (l.length=4*n)∧Hid (nb 65536 (l.take (4*i+k))+65536^(4*i+k)*q=nv (xs.take (i+1)))∧Hid (q*65536^k<WB)∧Ext w wr) (fun u y wr=>4-(intOf u).toNat)
   case atStart=>
    refine⟨0,l,x,bX _,rfl,rfl,hxb,hb,hw,hll,?_,?_,hr⟩
    ·show _=_
     rw [show 4*i+0=4*i from rfl,hv.out,gA xs i (by rw [hlx.out];omega),hxk.out,uC,←Nat.pow_mul]
    ·show _<_
     rw [dJ];omega
   case round=>
    obtain⟨k,l2,q,hk,rfl,rfl,hqb,hb2,hw2,hl2,hev,hq,hr2⟩:=hrel
    clear hb hw hll hv
    by_cases hk4:k<4
    ·obtain⟨o,ho,_,hco⟩:=hb2.digit i9 hw2 (i:=4*i+k) (by rw [hl2.out];omega)
     have hfr:=hb2.frozen (4*i+k)
     go_wp2_with fail
     go_roundw
     case rel=>
      refine⟨k+1,l2.set (4*i+k) (q%65536),q/65536,by omega,by go_num,by go_num,by omega,?_,jJ hw2 _ (hx:=(g7 q i9)),by show _=_;rw [List.length_set];exact hl2.out,a2v (n:=4*i+k) (by rw [hl2.out];omega) hev.out,?_,hr2.setCell hgs _⟩
      ·have e:((q:Int)%65536)=((q%65536:Nat):Int):=by omega
       rw [←tH,e];exact hb2.set _ _
      ·show _<_
       have h2:q/65536*65536≤q:=Nat.div_mul_le_self q 65536
       calc q/65536*65536^(k+1)=(q/65536*65536)*65536^k:=by rw [dS,dH (65536^k),cU]
        _≤q*65536^k:=fC _ h2
        _<WB:=hq.out
     case measure=>simp [intOf];omega
    ·obtain rfl:k=4:=by omega
     have hq0:q=0:=by
      have h:=hq.out
      rw [dJ] at h
      omega
     go_wp2_with fail
     go_roundw
     case rel=>
      refine⟨i+1,l2,by omega,by go_num,hb2,hw2,hl2.out,?_,hr2⟩
      show _=_
      have h:=hev.out
      rw [hq0,iV,fN] at h
      exact h
     case measure=>simp [intOf];omega
  ·obtain rfl:i=n:=by omega
   have hval:Hid (nb 65536 l=nv xs):=by
    show _=_
    have h:=hv.out
    rwa [List.take_of_length_le (by rw [hll.out];omega),List.take_of_length_le (by rw [hlx.out];omega)] at h
   clear hv
   go_wp2_with fail
   go_loop [7] (fun u=>∃k:Nat,k≤4*i∧u= no (k:Int)∧Hid (nb 65536 (l.take k)=nb 65536 l)) (fun u=>(intOf u).toNat)
   case atStart=>exact⟨4*i,aU _,by go_num,(show _=_ by rw [List.take_of_length_le (by rw [hll.out];omega)])⟩
   case round=>
    obtain⟨k,hk,rfl,hv⟩:=hrel
    have fin:k=0∨l.getD (k-1) 0≠0→GR w (nv xs) (.returned (up (some ⟨g,0,none⟩) k (4*i))) wr:=by
     intro h
     have e:=BZ iR (k:=k) hw (by rw [hll.out];exact hk) hv.out h
     rw [hval.out] at e
     have ho:Own wr w.heap.size 3 1 (some ⟨g,0,none⟩) k (4*i) ((db 65536 (nv xs)).map I6):=
      Own.mk_ hgs hb hk (by rw [eV];omega) (by rw [List.length_map,hll.out,eH]) (by rw [eH,←m6,e])
     refine⟨_,_,_,rfl,?_,⟨ho.rv,lQ iR _⟩,ho,hr⟩
     show _=_
     rw [e,eB,hll.out];omega
    have FIN:=Lib.hid fin
    clear fin
    by_cases h0:0<k
    ·obtain⟨x,hxk,hxb,hc⟩:=hb.digit i9 hw (i:=k-1) (by rw [hll.out];omega)
     by_cases hz:x=0
     ·subst hz
      go_wp2_with fail
      go_round
      case rel=>
       refine⟨k-1,by omega,gW,?_⟩
       show _=_
       rw [←hv.out,←B3 65536 l (k-1) (by rw [hll.out];omega) hxk.out,lJ h0]
      case measure=>simp [intOf];omega
     ·have hzb:((x:Int)==0)=false:=by simp;omega
      go_wp2_with fail
      go_ret
      exact FIN.out (cN (by rw [hxk.out];exact hz))
    ·go_wp2_with fail
     go_ret
     exact FIN.out (cJ i9)
theorem WZ (hx:Ri 65536 w A n cap ds)(hl:n≤1099511627775):aQ aM 129 #[up A n cap] w (jR w (nb 65536 ds)):=by
 have hlx:=Lib.hid hx.len;obtain⟨m,hm⟩:∃m,m=(n+3)/4:=⟨_,rfl⟩;have hm1:n≤4*m:=by omega
 have hm2:4*m<n+4:=by omega
 have hmk:=mB (P:=aM) Tryz.underlying22 j9 J yd (((n:Int)+3)/4) i9 i9;have et:(((n:Int)+3)/4).toNat=m:=by omega
 rw [et] at hmk;clear et hm
 go_enter Tryz.func129,Tryz.ntmps129
 go_wp2_with fail
 clear hmk;obtain⟨g,hg⟩:∃g,w.heap.size=g:=⟨_,rfl⟩;rw [hg];obtain⟨wa,hwa⟩:∃wa,w.alloc (.cells (zc (.int .u64 0) m) 43)=wa:=⟨_,rfl⟩;rw [hwa]
 have hbk:Bk wa g 43 ((dF m 0).map bF):=by
  rw [←hwa,←hg,←kG];exact Bk.new' _ _ _
 have hea:Ext w wa:=by rw [←hwa];exact (Ext.refl w).alloc _
 have hgs:w.heap.size≤g:=by rw [hg];exact aU _
 clear hg hwa
 go_loopw [4] (fun u wr=>∃(i:Nat) (l:List Nat),i≤n∧u= no ((i:Int)-1)∧Bk wr g 43 (l.map bF)∧Hid (l.length=m)∧Hid (∀t,t<m→l.getD t 0=mR ds i t)∧Ext w wr) (fun u wr=>(intOf u+1).toNat)
 case atStart=>
  refine⟨n,_,aU _,rfl,hbk,List.length_replicate,?_,hea⟩
  intro t ht
  have e1:(dF m 0).getD t 0=0:=by simp [bL,ht]
  unfold mR
  rw [e1,List.drop_eq_nil_of_le (by rw [hlx.out];omega)];simp [nb]
 case round=>
  obtain⟨i,l,hi,rfl,hb,hll,hv,hr⟩:=hrel
  clear hbk hea
  have hwl:Wf l:=by
   intro x hx'
   obtain⟨t,ht,rfl⟩:=wQ hx'
   have:=hv.out t (by rw [←hll.out];exact ht)
   rw [bL,cT ht,Option.getD_some] at this
   rw [this];exact HW hx.wf _ _
  by_cases h0:0<i
  ·obtain⟨j,rfl⟩:∃j,i=j+1:=⟨i-1,by omega⟩
   obtain⟨a,d,rfl,hdk,hdb,hcd⟩:=(hx.ext hr).get i9 (i:=j) i9
   obtain⟨x,hxk,hxb,hcx⟩:=hb.word hwl (i:=j/4) (by rw [hll.out];omega)
   have hfr:=hb.frozen (j/4)
   have hval:Hid (d+65536*x=mR ds j (j/4)):=by
    show _=_
    rw [RT,hdk.out,←hv.out (j/4) i9,hxk.out]
   have hbd:d+65536*x≤18446744073709551615:=by
    rw [hval.out]
    have:=HW hx.wf j (j/4)
    rw [dJ] at this;omega
   have hj:((j+1:Nat):Int)-1=(j:Int):=by omega
   rw [hj]
   clear hj h0
   have c1:(j:Int)/4<(m:Int):=by omega
   have c2:(0:Int)≤(j:Int)/4:=by omega
   go_wp2_with fail
   go_region
   go_wp2_with fail
   go_roundw
   case rel=>
    have ev:(x:Int)*65536+(d:Int)=((d+65536*x:Nat):Int):=by omega
    refine⟨j,l.set (j/4) (d+65536*x),by omega,gW,?_,by show _=_;rw [List.length_set];exact hll.out,?_,(hr.setCell hgs _).drew⟩
    ·rw [←eM,ev];exact (hb.set _ _).drew
    ·intro t ht
     by_cases htj:t=j/4
     ·subst htj
      rw [vS (by rw [hll.out];omega),hval.out]
     ·rw [getD_set_ne (fun e=>htj e.symm),hv.out t ht,RU htj]
   case measure=>simp [intOf]
  ·obtain rfl:i=0:=by omega
   have hval:Hid (nv l=nb 65536 ds):=RV (fun t ht=>hv.out t (by rw [←hll.out];exact ht)) (by rw [hll.out,hlx.out];exact hm1) (by rw [hll.out,hlx.out];exact hm2)
   clear hv
   go_wp2_with fail
   go_loop [5] (fun u=>∃k:Nat,k≤m∧u= no (k:Int)∧Hid (nv (l.take k)=nv l)) (fun u=>(intOf u).toNat)
   case atStart=>exact⟨m,aU _,rfl,(show _=_ by rw [List.take_of_length_le (by rw [hll.out];omega)])⟩
   case round=>
    obtain⟨k,hk,rfl,hv⟩:=hrel
    have fin:k=0∨l.getD (k-1) 0≠0→jR w (nb 65536 ds) (.returned (up (some ⟨g,0,none⟩) k m)) wr:=by
     intro h
     have e:=wW (k:=k) hwl (by rw [hll.out];exact hk) hv.out h
     rw [←hval.out]
     exact uD (ys:=l) hgs hb hll.out hk (by rw [eV];omega) e.symm hr
    have FIN:=Lib.hid fin
    clear fin
    by_cases h0:0<k
    ·obtain⟨x,hxk,hxb,hc⟩:=hb.word hwl (i:=k-1) (by rw [hll.out];omega)
     by_cases hz:x=0
     ·subst hz
      go_wp2_with fail
      go_round
      case rel=>
       refine⟨k-1,by omega,gW,?_⟩
       show _=_
       rw [←hv.out,←tG l (k-1) (by rw [hll.out];omega) hxk.out,lJ h0]
      case measure=>simp [intOf];omega
     ·have hzb:((x:Int)==0)=false:=by simp;omega
      go_wp2_with fail
      go_ret
      exact FIN.out (cN (by rw [hxk.out];exact hz))
    ·go_wp2_with fail
     go_ret
     exact FIN.out (cJ i9)
theorem Z8 {o x y P s:Nat}(hk:k=i+j)(hkm:k<m)(hml:m≤l.length)(h:nb b (l.take m)+b^k*c=P+x*(b^i*nb b (ys.take j)))(ho:l.getD k 0=o)(hj:j<ys.length)(hy:ys.getD j 0=y)(hs:s+b*d=o+x*y+c):nb b ((l.set k s).take m)+b^(k+1)*d=P+x*(b^i*nb b (ys.take (j+1))):=by
 have E:=xQ b (l:=l.take m) (k:=k) (by rw [eB];omega) s;rw [BF hkm,ho] at E;rw [List.take_set,jE b ys j hj,hy,dE (b^i),dE x,←k8,←h,←cU (b^i),←eS,←hk,dS,cU (b^k)];have f:b^k*(s+b*d)=b^k*(o+x*y+c):=by rw [hs]
 simp only [dE] at f;have F:b^k*(x*y)=x*(b^k*y):=by rw [←cU,dH (b^k) x,cU]
 rw [F] at f;omega
theorem ZB {x y B:Nat}(hx:x≤B)(hy:y≤B):((x:Int)*(y:Int))≤((B*B:Nat):Int)∧0≤((x:Int)*(y:Int))∧((x:Int)*(y:Int))=((x*y:Nat):Int):=by
 have h:x*y≤B*B:=kP hx hy;rw [←oH];omega
theorem X2 (hx:Rd w A n cap xs)(hl:n≤68719476735)(hy:Rd w B n' cap' ys)(hl':n'≤68719476735):aQ aM 98 #[up A n cap,up B n' cap'] w (jR w (nv xs*nv ys)):=by
 go_enter Tryz.func98,Tryz.ntmps98
 go_wp2_with fail
 refine (KL hx i9).mono ?_;rintro e w1 ⟨A1,p,c1,rfl,hp,hr1,_,hx1⟩;have hbp:p≤274877906944:=by have:=rS hx.wf;rw [hp.out];rw [hx.len] at this;omega
 go_wp2_with fail
 refine (KL (hy.ext hx1) i9).mono ?_;rintro e w2 ⟨A2,q,c2,rfl,hq,hr2,_,hx2⟩;have hbq:q≤274877906944:=by have:=rS hy.wf;rw [hq.out];rw [hy.len] at this;omega
 have hr1':=hr1.ext hx2;have hx12:=hx1.trans hx2;clear hr1 hx1 hx2;obtain⟨ds,hds⟩:∃ds,ds=db 65536 (nv xs):=⟨_,rfl⟩;obtain⟨es,hes⟩:∃es,es=db 65536 (nv ys):=⟨_,rfl⟩;have hvx:=Lib.hid (show nb 65536 ds=nv xs by rw [hds,iS iR]);have hvy:=Lib.hid (show nb 65536 es=nv ys by rw [hes,iS iR]);have hdl:=Lib.hid hr1'.len;have hel:=Lib.hid hr2.len;rw [←hds] at hr1' hdl;rw [←hes] at hr2 hel;clear hds hes hp hq hx hy;have hmk:=mB (P:=aM) Tryz.underlying88 tO J yd ((p:Int)+(q:Int)) i9 i9;have et:((p:Int)+(q:Int)).toNat=p+q:=by omega
 rw [et] at hmk;clear et
 go_wp2_with fail
 clear hmk;obtain⟨g,hg⟩:∃g,w2.heap.size=g:=⟨_,rfl⟩;rw [hg];obtain⟨wa,hwa⟩:∃wa,w2.alloc (.cells (zc (.int .i64 0) (p+q)) 3)=wa:=⟨_,rfl⟩;rw [hwa]
 have hbk:Bk wa g 3 ((dF (p+q) 0).map I6):=by
  rw [←hwa,←hg,←AJ];exact Bk.new' _ _ _
 have hea:Ext w2 wa:=by rw [←hwa];exact (Ext.refl w2).alloc _
 have hgs:w.heap.size≤g:=by rw [←hg];exact hx12.size
 have hgc:w2.heap.size≤g:=by rw [hg];exact aU _
 clear hg hwa
 go_loopw [8] (fun u wr=>∃(i:Nat) (l:List Nat),i≤p∧u= no (i:Int)∧Hid (l.length=p+q)∧Wfb 65536 l∧Bk wr g 3 (l.map I6)∧
  Hid (nb 65536 (l.take (i+q))=nb 65536 (ds.take i)*nb 65536 es)∧Ext w2 wr) (fun u wr=>p-(intOf u).toNat)
 case atStart=>
  refine⟨0,_,bX _,rfl,List.length_replicate,qW _ (hb:=i9),hbk,?_,hea⟩
  show _=_
  rw [List.take_replicate,xP];simp [nb]
 case round=>
  obtain⟨i,l,hi,rfl,hll,hwl,hb,hv,hr⟩:=hrel
  clear hbk hea
  by_cases hip:i<p
  ·obtain⟨a,x,rfl,hxk,hxb,hcx⟩:=(hr1'.ext hr).get i9 (i:=i) i9
   go_wp2_with fail
   obtain⟨wo,rfl⟩:∃wo:a6,wo=wr:=⟨_,rfl⟩
   go_loopw [10,9] (fun u v wr=>∃(j c:Nat) (l:List Nat),j≤q∧c≤65535∧u= no (j:Int)∧v= no (c:Int)∧Hid (l.length=p+q)∧Wfb 65536 l∧Bk wr g 3 (l.map I6)∧
    Hid (nb 65536 (l.take (i+q))+65536^(i+j)*c=nb 65536 (ds.take i)*nb 65536 es+x*(65536^i*nb 65536 (es.take j)))∧Ext w2 wr) (fun u v wr=>q-(intOf u).toNat)
   case atStart=>exact⟨0,0,l,bX _,bX _,rfl,rfl,hll.out,hwl,hb,(show _=_ by rw [hv.out];simp [nb]),hr⟩
   case round=>
    obtain⟨j,c,l2,hj,hc,rfl,rfl,hl2,hw2,hb2,hv2,hr2'⟩:=hrel
    clear hll hwl hb hv
    by_cases hjq:j<q
    ·have hcx2:=(hr1'.ext hr2').get i9 (i:=i) i9
     obtain⟨a',x',ha',hxk',_,hcx'⟩:=hcx2
     cases ha'
     obtain rfl:x'=x:=by rw [←hxk'.out,hxk.out]
     obtain⟨b,y,rfl,hyk,hyb,hcy⟩:=(hr2.ext hr2').get i9 (i:=j) i9
     obtain⟨o,hok,iG,hco⟩:=hb2.digit i9 hw2 (i:=i+j) (by rw [hl2.out];omega)
     have hfr:=hb2.frozen (i+j)
     obtain⟨m1,m2,m3⟩:=ZB (B:=65535) (x:=x') (y:=y) i9 i9
     have M3:=Lib.hid m3
     clear m3 hcx hxk'
     have m1':(x':Int)*(y:Int)≤4294836225:=by simpa using m1
     clear m1
     go_wp2_with fail
     go_quiet (fail)
     go_wp2_with fail
     go_roundw
     case rel=>
      have hs:o+x'*y+c≤4294967295:=by
       have h:=M3.out
       have:x'*y≤4294836225:=by omega
       omega
      have ev:((o:Int)+(x':Int)*(y:Int)+(c:Int))=((o+x'*y+c:Nat):Int):=by rw [M3.out];omega
      refine⟨j+1,(o+x'*y+c)/65536,l2.set (i+j) ((o+x'*y+c)%65536),by omega,by omega,by go_num,by rw [ev];exact gW,by show _=_;rw [List.length_set];exact hl2.out,jJ hw2 _ (hx:=(g7 _ i9)),?_,
       Z8 (k:=i+j) (m:=i+q) J i9 (by rw [hl2.out];omega) hv2.out hok.out (by rw [hel.out];omega) hyk.out (kF _ _),(by first | exact (hr2'.drewN _).setCell hgc _ | exact (hr2'.setCell hgc _).drewN _)⟩
      have ev2:((o:Int)+(x':Int)*(y:Int)+(c:Int))%65536=(((o+x'*y+c)%65536:Nat):Int):=by rw [ev];omega
      rw [←tH,←ev2];exact (hb2.drewN _).set _ _
     case measure=>simp [intOf];omega
    ·obtain rfl:j=q:=by omega
     obtain⟨o,hok,iG,hco⟩:=hb2.digit i9 hw2 (i:=i+j) (by rw [hl2.out];omega)
     have hfr:=hb2.frozen (i+j)
     go_wp2_with fail
     go_roundw
     case rel=>
      refine⟨i+1,l2.set (i+j) c,by omega,by go_num,by show _=_;rw [List.length_set];exact hl2.out,jJ hw2 _,by rw [←tH];exact hb2.set _ _,?_,hr2'.setCell hgc _⟩
      show _=_
      rw [show i+1+j=i+j+1 from by omega,pQ 65536 (by rw [hl2.out];omega),hv2.out,List.take_of_length_le (l:=es) (i:=j) (by rw [hel.out];omega),jE 65536 ds i (by rw [hdl.out];omega),hxk.out,eE,←cU,dH x]
     case measure=>simp [intOf];omega
  ·obtain rfl:i=p:=by omega
   have hr3:Ri 65536 wr (some ⟨g,0,none⟩) (i+q) (i+q) l:=by
    have:=hb.ri hwl (o:=0) (n:=i+q) (cap:=i+q) (aU _) (by rw [hll.out];omega) (by rw [eV];omega)
    rwa [iN,List.take_of_length_le (by rw [hll.out];omega)] at this
   have hval:Hid (nb 65536 l=nv xs*nv ys):=by
    show _=_
    have h:=hv.out
    rwa [List.take_of_length_le (by rw [hll.out];omega),List.take_of_length_le (by rw [hdl.out];omega),hvx.out,hvy.out] at h
   go_wp2_with fail
   refine (WZ hr3 i9).mono ?_
   rintro e w3 ⟨A3,n3,c3,rfl,hn3,hr4,ho4,hx3⟩
   go_wp2_with fail
   go_ret
   rw [hval.out] at hn3 hr4 ho4
   exact⟨A3,n3,c3,rfl,hn3,hr4,ho4.mono (hx12.trans hr).size,(hx12.trans hr).trans hx3⟩
theorem uS (w:a6):(sizeOf 3).run aM w= .ok 1 w:=by kernel_rfl
theorem QD (w:a6):(isAgg 3).run aM w= .ok false w:=by kernel_rfl
theorem wX:Tryz.prog.underlying 88=some (.slice 3):=Tryz.underlying88
theorem Ri.at (hb:0<b)(h:Ri b w A n c xs)(hi:i<n):∃p,A.map (·.add (i*1))=some p∧w.cell? p=some (no (xs.getD i 0:Nat))∧xs.getD i 0<b:=by
 obtain⟨a,x,rfl,o,f,hc⟩:=h.get hb hi;refine⟨a.add i,by rw [eH];rfl,?_,by rw [o.out];exact f⟩;rw [o.out];exact hc
theorem Ri.updL (h:Ri b w A n c xs)(e:Upd g w w')(hne:0<c→∀a,A=some a→a.block≠g):Ri b w' A n c xs:=
 ⟨⟨h.rv.len,h.rv.le,h.rv.max,fun i hi=>by
  obtain⟨a,f,hc⟩:=h.rv.get i hi
  exact⟨a,f,e.cell hc (by rw [vY];exact hne (by have:=h.rv.le;omega) a f)⟩,fun a f hc=>dA (h.rv.blk a f hc) e.size⟩,h.wf⟩
def SD (m:Nat)(v:aF)(w:a6):Prop:=∃A k c,v= up A k c∧Ri 65536 w A k c (db 65536 m)
theorem O6 {x y:Nat}(e:eF)(w':a6)(h:yS x y w e w'):Gv w (Is (no (fA x y))) e w':=by
 obtain⟨c,h1,_,_,rfl,h2⟩:=h;exact⟨_,rfl,(show eL .i64 c=_ by rw [h1.out]),h2⟩
theorem NG (h:Rd w A n c xs):(db 65536 (nv xs)).length≤4*n:=by
 have:=rS h.wf;rwa [h.len] at this
theorem OO (hx:Rd w A n c xs)(hl:n≤274877906943):aQ aM 130 #[up A n c] w (Gv w (SD (nv xs))):=
 (tE hx hl).mono fun e w' h=>by
  obtain⟨A,n,c,rfl,_,h2,_,f⟩:=h
  exact⟨_,rfl,⟨A,n,c,rfl,h2⟩,f⟩
theorem a1f (hb:b≤w.heap.size)(hx:Ri 65536 w A n c ds)(hl:n≤1099511627775):aQ aM 132 #[up A n c] w (Gv w (WR b (nb 65536 ds))):=(AM hx hl).mono (gw hb)
theorem a1d {x y:Nat}(hx:Ri 65536 w A n c (db 65536 x))(hl:n≤1099511627776)(hy:Ri 65536 w B m d (db 65536 y))(hl':m≤1099511627776):aQ aM 133 #[up A n c,up B m d] w (Gv w (Is (no (fA x y)))):=(KN hx hl hy hl').mono O6
theorem ON (hx:Ri 65536 w A n c ds)(hl:n≤1099511627776)(hi:i≤4398046511104):aQ aM 131 #[up A n c,no (i:Int)] w (Gv w (Is (no (ds.getD i 0:Nat)))):=
 (E9 hx hl (i:=(i:Int))).mono fun e w' h=>by
  obtain⟨x,h1,_,rfl,rfl⟩:=h
  have h2:=h1.out
  rw [jB] at h2
  exact⟨_,rfl,(show eL .i64 (x:Int)=_ by rw [h2]),Ext.refl _⟩
theorem J4 {t t':Nat}(hl:i<l.length)(hd:i<ds.length)(h:nb 65536 (l.take i)+nb 65536 (es.take i)=nb 65536 (ds.take i)+65536^i*t)(hs:d+es.getD i 0+t=ds.getD i 0+65536*t'):nb 65536 ((l.set i d).take (i+1))+nb 65536 (es.take (i+1))=nb 65536 (ds.take (i+1))+65536^(i+1)*t':=by
 have he:nb 65536 (es.take (i+1))=nb 65536 (es.take i)+65536^i*es.getD i 0:=by
  by_cases h:i<es.length
  ·exact jE _ _ _ h
  ·rw [List.take_of_length_le i9,List.take_of_length_le i9,bL,jT i9]
   rfl
 rw [pQ 65536 hl,he,jE 65536 ds i hd,dS,cU];have e:65536^i*(d+es.getD i 0+t)=65536^i*(ds.getD i 0+65536*t'):=by rw [hs]
 simp only [dE] at e;omega
theorem U7 {x y t:Nat}(hds:ds=db 65536 x)(hes:es=db 65536 y)(hxy:y≤x)(hn:ds.length=n)(hl:l.length=n)(hw:Wfb 65536 l)(h:nb 65536 (l.take n)+nb 65536 (es.take n)=nb 65536 (ds.take n)+65536^n*t):nb 65536 l=x-y:=by
 have h1:es.length≤n:=by rw [←hn,hds,hes];exact vO iR hxy
 rw [List.take_of_length_le i9,List.take_of_length_le h1,List.take_of_length_le i9,hds,hes,iS iR,iS iR] at h;have h2:=qN hw;rw [hl] at h2
 have f:t=0:=by
  refine Nat.eq_zero_of_not_pos fun o=>?_
  have f:65536^n*1≤65536^n*t:=gT _ o
  omega
 rw [f] at h;omega
theorem a2R {x y:Nat}(h:y≤x):cQ .lss (fA x y) 0=some false:=by
 have e:¬fA x y<0:=fun e=>by have:=nH.1 e;omega
 exact tI
theorem a2W {x y:Nat}(h:y≤x):y≤x:=h
theorem Bk.ri0 (h:Bk w g t (l.map I6))(hw:Wfb 65536 l)(hl:l.length=N)(hN:N≤9223372036854775807):Ri 65536 w (some ⟨g,0,none⟩) N N l:=by
 have:=h.ri hw (o:=0) (n:=N) (cap:=N) (aU _) i9 (by rw [eV];exact hN);rwa [iN,List.take_of_length_le (Nat.le_of_eq hl)] at this
theorem X3 {cd:Nat}(hx:Rd w A n cap xs)(hln:n≤137438953472)(hy:Rd w D m cd ys)(hlm:m≤137438953472)(hle:nv ys≤nv xs):aQ aM 102 #[up A n cap,up D m cd] w (Gv w (T2 (WR w.heap.size (nv xs-nv ys)) (Is (no 0)))):=by
 refine bU Tryz.func102 49 J (sr (aE 2 J (aV 1 J (bI [up A n cap] bN (OO hx i9) J ?_))));rintro _ _ ⟨A4,f,c4,rfl,H⟩ e2 F;refine aE 1 J (aV 1 J (bI [up D m cd] F (OO (hy.ext e2) i9) J ?_));rintro _ _ ⟨U,n8,X,rfl,fT⟩ e6 o;refine aE 1 J (aD (aD ?_));have ab:=H.len;have bw:=NG hx;have ci:=fT.len;have cv:=NG hy;refine aK 2 J (bI [up A4 f c4,up U n8 X] o (a1d (H.ext e6) i9 fT i9) J ?_);rintro _ _ rfl I E;refine aH J (a2R hle) (aG (aT J (bB (aL (aD ?_)))));obtain⟨ds,cm⟩:∃ds,ds=(db 65536 (nv xs)):=⟨_,rfl⟩;rw [←cm] at H ab bw;have bh:=H.wf;obtain⟨es,bg⟩:∃es,es=(db 65536 (nv ys)):=⟨_,rfl⟩;rw [←bg] at fT ci cv;have bo:=fT.wf;refine aK 1 J (aA (no f) J (mT J (k:=f) J J J wX tO J fun h dh ag ak aw=>?_));rw [AJ] at ak;have ah:w.heap.size≤h:=by rw [←ag];exact E.size
 have dr:0<cap→∀a,A=some a→a.block≠h:=fun hc a ha=>by have:=((hx.ext (e2.t (e6.t I)))).rv.blk a ha hc;omega
 have dt:0<cd→∀a,D=some a→a.block≠h:=fun hc a ha=>by have:=((hy.ext (e2.t (e6.t I)))).rv.blk a ha hc;omega
 have aa:0<c4→∀a,A4=some a→a.block≠h:=fun hc a ha=>by have:=((H.ext (e6.t I))).rv.blk a ha hc;omega
 have ao:0<X→∀a,U=some a→a.block≠h:=fun hc a ha=>by have:=((fT.ext I)).rv.blk a ha hc;omega
 clear ag;refine aE 1 J (sr (aE 1 J (aD (sr (aE 1 J (bO ?_))))));refine dC (T:=a6×Nat×Nat×List Nat) (fun⟨wr,i,t,l⟩=> [(6,up A4 f c4),(7,up U n8 X),(8,up (some ⟨h,0,none⟩) f f),(9,no t),(10,no i)]) (fun⟨wr,i,t,l⟩=>wr) (fun⟨wr,i,t,l⟩=>(Ext w wr)∧(i≤f)∧(t≤1)∧(Bk wr h 3 (l.map I6))∧(l.length=f)∧(Wfb 65536 l)∧(nb 65536 (l.take i)+nb 65536 (es.take i)=nb 65536 (ds.take i)+65536^i*t)∧(Ri 65536 wr A4 f c4 ds)∧(Ri 65536 wr U n8 X es)) (fun⟨wr,i,t,l⟩=>f-i) (⟨dh,0,0,_⟩:a6×Nat×Nat×List Nat) ⟨(E.trans aw),bX _,bX _,ak,(List.length_replicate (n:=f) (a:=0)),qW _,by simp [nb],(H.ext (e6.t (I.t aw))),(fT.ext (I.t aw))⟩ J (aP J) ?_;rintro⟨wr,i,t,l⟩ ⟨F,hi,ht,hb,hl,Z,hv,W,Y⟩;refine fW [(6,up A4 f c4),(7,up U n8 X),(8,up (some ⟨h,0,none⟩) f f),(9,no t),(10,no i)] wr J (aP J) (aD (aD ?_));by_cases dw:i<f
 ·refine aK 2 J (aA (no f) J (aH J (dV i f J) (aG (bC J (bB (aL (aD (bO (aD ?_)))))))));have dx:=jK (b:=65536) bh i;have dy:=jK (b:=65536) bo i;by_cases du:es.getD i 0+t≤ds.getD i 0
  ·obtain⟨da,ct,cp,_⟩:=(W).at yd (i:=i) i9;refine dW cM 10 [] [Is (up A4 f c4),Is (no i),Is (.pointer (some da)),Is (no (ds.getD i 0:Nat)),Is (up U n8 X),Is (no i),Is (no (es.getD i 0:Nat)),Is (no ((ds.getD i 0)-(es.getD i 0):Nat)),Is (no t),Is (no (((ds.getD i 0)-(es.getD i 0))-t:Nat))] [[],[],[0,1],[2],[],[],[4,5],[3,6],[],[7,8]] rfl (bY J ?_ ?_ ?_ ?_ (bY J ?_ ?_ ?_ ?_ (cG J ?_ (cG J ?_ dN)))) ?_
   ·exact fun _ _=>aC (mv 1 J (aI J))
   ·exact fun _ _=>aC (mv 1 J (aI J))
   ·exact fun _ _=>aY J (aC (cA wX uS i da ct J (aI J)))
   ·exact fun _ dl=>aO J (aC (bG (d5 QD (dl.cell cp)) J (aI J)))
   ·exact fun _ _=>aC (mv 1 J (aI J))
   ·exact fun _ _=>aC (mv 1 J (aI J))
   ·intro _ br;have o:=F.trans br;refine aY J (aC (bI [up U n8 X,no i] o (ON (Y.ext br) i9 i9) J ?_));rintro _ _ rfl df E;exact bQ J df rfl
   ·exact fun _ _=>aY J (aC (bD J (iU (ds.getD i 0) (es.getD i 0) J) (aI J)))
   ·exact fun _ _=>aC (mv 1 J (aI J))
   ·exact fun _ _=>aY J (aC (bD J (iU ((ds.getD i 0)-(es.getD i 0)) t J) (aI J)))
   intro _ V;have o:=F.trans V;refine d6 J (d6 J (aY J (aC (bS 1 J (dM ?_)))));refine aL (sr (aE 1 J (aD (aV 1 J (aH J (dQ (((ds.getD i 0)-(es.getD i 0))-t) 0 J) (aG (aT J (bB (aL (aK 1 J ?_))))))))));refine mv 2 J (cA wX uS i ⟨h,i,none⟩ (eG _ _) J ?_);refine i0 J J J uS J (hb.ext V) (iQ (by rw [hl];omega)) J ((l.set i (((ds.getD i 0)-(es.getD i 0))-t)).map I6) (tH _ _ _) fun bu bf M _=>?_;have E:=M.ext o ah;refine cF (bT (aL (aK 1 J (bD J (cK i 1 J) (bS 1 J (cP (⟨bu,i+1,0,_⟩:a6×Nat×Nat×List Nat) ⟨E,i9,yd,bf,(jQ (l:=l) (hl)),jJ Z _,J4 i9 i9 hv i9,(Ri.updL (W.ext V) M aa),(Ri.updL (Y.ext V) M ao)⟩ (show f-(i+1)<f-i by omega) J (aP J)))))))
  obtain⟨am,az,ar,_⟩:=(W).at yd (i:=i) i9;refine dW cM 10 [] [Is (up A4 f c4),Is (no i),Is (.pointer (some am)),Is (no (ds.getD i 0:Nat)),Is (up U n8 X),Is (no i),Is (no (es.getD i 0:Nat)),Is (no (((ds.getD i 0:Nat):Int)-((es.getD i 0:Nat):Int))),Is (no t),Is (no ((((ds.getD i 0:Nat):Int)-((es.getD i 0:Nat):Int))-((t:Nat):Int)))] [[],[],[0,1],[2],[],[],[4,5],[3,6],[],[7,8]] rfl (bY J ?_ ?_ ?_ ?_ (bY J ?_ ?_ ?_ ?_ (cG J ?_ (cG J ?_ dN)))) ?_
  ·exact fun _ _=>aC (mv 1 J (aI J))
  ·exact fun _ _=>aC (mv 1 J (aI J))
  ·exact fun _ _=>aY J (aC (cA wX uS i am az J (aI J)))
  ·exact fun _ bj=>aO J (aC (bG (d5 QD (bj.cell ar)) J (aI J)))
  ·exact fun _ _=>aC (mv 1 J (aI J))
  ·exact fun _ _=>aC (mv 1 J (aI J))
  ·intro _ aj;have o:=F.trans aj;refine aY J (aC (bI [up U n8 X,no i] o (ON (Y.ext aj) i9 i9) J ?_));rintro _ _ rfl bp E;exact bQ J bp rfl
  ·exact fun _ _=>aY J (aC (eC J J J (((ds.getD i 0:Nat):Int)-((es.getD i 0:Nat):Int)) (fS J) (aI J)))
  ·exact fun _ _=>aC (mv 1 J (aI J))
  ·exact fun _ _=>aY J (aC (eC J J J ((((ds.getD i 0:Nat):Int)-((es.getD i 0:Nat):Int))-((t:Nat):Int)) (fS J) (aI J)))
  intro _ G;have o:=F.trans G;refine d6 J (d6 J (aY J (aC (bS 1 J (dM ?_)))));refine aL (sr (aE 1 J (aD (aV 1 J (aH J (xU i9) (aG (bC J (aV 1 J (eC J J J ((ds.getD i 0+65536-es.getD i 0-t:Nat):Int) (vZ) (mv 1 J ?_))))))))));refine aG (bH (aE 1 J (aK 3 J (cA wX uS i ⟨h,i,none⟩ (eG _ _) J ?_))));refine i0 J J J uS J (hb.ext G) (iQ (by rw [hl];omega)) J ((l.set i (ds.getD i 0+65536-es.getD i 0-t)).map I6) (tH _ _ _) fun bm bd L _=>?_;have E:=L.ext o ah;refine cF (bT (aL (aK 1 J (bD J (cK i 1 J) (bS 1 J (cP (⟨bm,i+1,1,_⟩:a6×Nat×Nat×List Nat) ⟨E,i9,yd,bd,(jQ (l:=l) (hl)),jJ Z _,J4 i9 i9 hv i9,(Ri.updL (W.ext G) L aa),(Ri.updL (Y.ext G) L ao)⟩ (show f-(i+1)<f-i by omega) J (aP J)))))))
 refine aK 2 J (aA (no f) J (aH J (dQ i f J) (aG (aT J (d9 (cY (d7 (d8 (aL (aD ?_))))))))));obtain rfl:f=i:=by omega
 have cj:=U7 cm bg (a2W hle) ab hl Z hv;refine aK 1 J (bI [up (some ⟨h,0,none⟩) f f] F (a1f F.size (hb.ri0 Z hl i9) i9) J ?_);rintro _ _ ⟨de,ch,cz,rfl,ae,aq⟩ _ o;refine aE 2 J (bA (aZ [up de ch cz,I0] J ⟨rfl,rfl,xl⟩ ?_));rw [cj] at ae aq;exact⟨_,rfl,⟨_,_,rfl,⟨_,_,_,rfl,ae,aq⟩,rfl⟩,o⟩
end
end Go.Proofs.YtkkabncicmhjfaaGreatDoor
