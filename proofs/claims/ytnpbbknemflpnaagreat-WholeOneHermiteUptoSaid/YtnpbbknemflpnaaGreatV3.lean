/- Parts Mt, Opm, Mta, Top, Br, Dt, Bs, Stm, Cm, Stp, Opst, Ir, Il, Lin, Im, Rel, Bof, St1, St2, St3, St4, St5, joined. -/
import Derived.Test.YtnpbbknemflpnaaGreatV2
import Derived.RangeFuncNested
import Derived.RangeFuncLeaves
import Derived.OrdersIn
import Derived.TacticsIn

namespace Go.Proofs.YtnpbbknemflpnaaGreat
open Go.RowKit
theorem aggMat:AggT Tryz.prog 24 3:=⟨fun _=>by kernel_rfl,fun _=>by kernel_rfl⟩
theorem cellInt:∀w,(isAgg 3).run Tryz.prog w= .ok false w:=fun _=>by kernel_rfl
theorem cellInts:∀w,(isAgg 22).run Tryz.prog w= .ok false w:=fun _=>by kernel_rfl
theorem szInts:∀w,(sizeOf 22).run Tryz.prog w= .ok 1 w:=fun _=>by kernel_rfl
section
variable {P:Program}{Q:Exit→Act→World→Prop}{n:Nat}{l:Fr}{w:World}{ops:Array Oper}{rest:List Oper}{d:Nat}{ty:TypeId}{pos:String}{af:Array Edge}{gd:Option (Nat×Bool)}
theorem map_evo {a:Act}(ha:Rp n l a):∀(xs:List Operand) (vs:List Value),xs.map (evo l)=vs.map some→xs.map a.eval=vs
 | [],[],_=>rfl
 | [],_::_,h=>by cases h
 | _::_,[],h=>by cases h
 | x::xs,v::vs,h=>by
  simp only [List.map_cons,List.cons.injEq] at h
  rw [List.map_cons,ha.ev h.1,map_evo ha xs vs h.2]
theorem wl_callF {x:Operand}{xs:Array Operand}{ts:Array TypeId}{k:FuncId}{cs:List Value}(vs:List Value){R:Ending→World→Prop}(hw:guardB ops l gd=some true) (hx:evo l x=some (.func (.func k) #[] cs.toArray))
  (hxs:xs.toList.map (evo l)=vs.map some) (he:∀(args:Array Value) (w:World),(callFunc k args).run P w= .ok (.enter k args) w) (hn:d<n) (hc:Calls P k (vs++cs).toArray w R)
  (h:∀e w',R e w'→Ret (fun v=>wl P ops Q n rest ((d,v)::l) w') e):wl P ops Q n (⟨some d,.call {callee:= .value x,args:=xs,argTypes:=ts},ty,pos,af,gd⟩::rest) l w:=fun a ha=>by
 refine wl_plain hw ha fun K hK=>?_
 have e1:xs.map a.eval=vs.toArray:=by
  apply Array.ext'
  rw [Array.toList_map]
  exact map_evo ha _ _ hxs
 have e2:(execOp a.eval ⟨some d,.call {callee:= .value x,args:=xs,argTypes:=ts},ty,pos,af,gd⟩).run P w= .ok (.enter k (vs++cs).toArray) w:=by
  unfold execOp
  simp only [resolve,ha.ev hx,e1,Deferred.ofValue,Sem.run_bind,Sem.run_pure,Result.andThen_ok,invoke]
  simp only [List.append_toArray,List.nil_append,he]
 unfold Oper.wp
 rw [e2]
 refine hc.mono fun e w' hR=>?_
 have:=h e w' hR
 cases e with
 | returned v=>exact hK _ _ (this _ (ha.put hn v))
 | panicked c=>exact this.elim
 | outgrown=>exact this.elim
end
theorem ix_64 {i c:Nat}(hi:i≤64) (hc:c≤64):i*c≤4096:=Nat.mul_le_mul hi hc
def LE (m:Option World) (K b lb n:Nat) (zs:List Int) (v:Value) (w:World):Prop:=∃A cap,v= .slice A n cap∧Lz m K b w lb A n cap zs
def LQ (m:Option World) (K b lb n:Nat) (p:List Int→Prop) (v:Value) (w:World):Prop:=∃A cap zs,v= .slice A n cap∧Lz m K b w lb A n cap zs∧p zs
def MQ (R C:Int) (L:Value→World→Prop) (v:Value) (w:World):Prop:=∃lv,v= .agg #[.int .i64 R,.int .i64 C,lv]∧L lv w
def En (r c:Nat) (f:Mx) (zs:List Int):Prop:=∀i j,i<r→j<c→zs.getD (i*c+j) 0=f i j
theorem LQ.imp {m:Option World}{K b lb n K' b' lb':Nat}{p q:List Int→Prop}(hK:K≤K') (hb:b'≤b) (hl:lb'≤lb) (hp:∀zs,p zs→q zs) (v:Value) (w:World) (h:LQ m K b lb n p v w):LQ m K' b' lb' n q v w:=by
 obtain⟨A,cap,zs,rfl,h1,h2⟩:=h
 exact⟨A,cap,zs,rfl,h1.mono hK hb hl,hp _ h2⟩
theorem MQ.imp {R C:Int}{L L':Value→World→Prop}(h:∀v w,L v w→L' v w) (v:Value) (w:World) (hm:MQ R C L v w):MQ R C L' v w:=by
 obtain⟨lv,rfl,h1⟩:=hm
 exact⟨lv,rfl,h _ _ h1⟩
theorem En.cong {r c:Nat}{f g:Mx}(hfg:∀i j,i<r→j<c→f i j=g i j) (zs:List Int) (h:En r c f zs):En r c g zs:=fun i j hi hj=>(h i j hi hj).trans (hfg i j hi hj)
def ZF (w:World) (A:Option Addr) (n cap K:Nat) (zs:List Int):Prop:=∃ms,Zl w A n cap zs ms∧∀i,ms.getD i 0≤K
theorem ZF.mono {w:World}{A:Option Addr}{n cap K K':Nat}{zs:List Int}(h:ZF w A n cap K zs) (hK:K≤K'):ZF w A n cap K' zs:=by
 obtain⟨ms,h1,h2⟩:=h
 exact⟨ms,h1,fun i=>Nat.le_trans (h2 i) hK⟩
theorem El.som {b:Nat}{w w0:World}{e:ZC}{z:Int}(h:El none b w e z):El (some w0) b w e z:=by
 rcases h with h | ⟨w1,h1,h2⟩
 ·exact Or.inl h
 ·cases h1
theorem Lz.som {K b lb:Nat}{w w0:World}{A:Option Addr}{n cap:Nat}{zs:List Int}(h:Lz none K b w lb A n cap zs):Lz (some w0) K b w lb A n cap zs:=by
 obtain⟨es,h1,h2,h3,h4⟩:=h
 exact⟨es,h1,h2,h3,fun i hi=>⟨(h4 i hi).1,(h4 i hi).2.som⟩⟩
theorem Lz.zf {K b lb:Nat}{w w0:World}{A:Option Addr}{n cap:Nat}{zs:List Int}(h:Lz (some w0) K b w lb A n cap zs) (x:Ext w0 w):ZF w A n cap K zs:=h.zl x
theorem Lz.zf0 {K b lb:Nat}{w:World}{A:Option Addr}{n cap:Nat}{zs:List Int}(h:Lz none K b w lb A n cap zs):ZF w A n cap K zs:=(h.som (w0:=w)).zl (Ext.refl w)
theorem ZF.ln {w:World}{A:Option Addr}{n cap K:Nat}{zs:List Int}(h:ZF w A n cap K zs) (i:Nat):ln (zs.getD i 0)≤K:=by
 obtain⟨ms,h1,h2⟩:=h
 by_cases hi:i<n
 ·obtain⟨p,s,B,c,_,_,hz⟩:=h1.at hi
  exact Nat.le_trans hz.ln (h2 i)
 ·rw [List.getD_eq_getElem?_getD,List.getElem?_eq_none (by rw [h1.len];omega)];exact Nat.zero_le _
theorem ZF.ext {w w':World}{A:Option Addr}{n cap K:Nat}{zs:List Int}(h:ZF w A n cap K zs) (e:Ext w w'):ZF w' A n cap K zs:=by
 obtain⟨ms,h1,h2⟩:=h
 exact⟨ms,h1.ext e,h2⟩
theorem ln_eq_zero {x:Int}(h:ln x=0):x=0:=by
 have:=len_wd_zero.1 (show (wd x.natAbs).length=0 from h)
 omega
theorem ln_w64 {x:Nat}(h:x≤18446744073709551615):ln ((x:Nat):Int)≤1:=ln_w1 (by omega) (by omega)
theorem wd_topI {x:Int}(h:x≠0):(wd x.natAbs).getD (ln x-1) 0≠0:=by
 have h1:=db_top (b:=WB) (by decide) x.natAbs
 rw [←wd_db] at h1
 have h2:(wd x.natAbs).length≠0:=fun e=>h (ln_eq_zero e)
 rcases h1 with h1 | h1
 ·exact absurd h1 h2
 ·exact h1
theorem lz4 {w:World}{K b lb g:Nat}{s1 s2 s3 s4:Bool}{A1 A2 A3 A4:Option Addr}{n1 n2 n3 n4 c1 c2 c3 c4:Nat}{x1 x2 x3 x4:Int}(hl:lb≤g)
  (hb:Bk w g 41 [.bool s1,.slice A1 n1 c1,.bool s2,.slice A2 n2 c2,.bool s3,.slice A3 n3 c3,.bool s4,.slice A4 n4 c4]) (h1:Zr w b s1 A1 n1 c1 x1) (h2:Zr w b s2 A2 n2 c2 x2) (h3:Zr w b s3 A3 n3 c3 x3) (h4:Zr w b s4 A4 n4 c4 x4)
  (k1:n1≤K) (k2:n2≤K) (k3:n3≤K) (k4:n4≤K):Lz none K b w lb (some ⟨g,0,none⟩) 4 4 [x1,x2,x3,x4]:=
 ⟨[⟨s1,A1,n1,c1⟩,⟨s2,A2,n2,c2⟩,⟨s3,A3,n3,c3⟩,⟨s4,A4,n4,c4⟩],Own.mk_ hl hb (by decide) (by decide) rfl rfl,rfl,rfl,fun i hi=>by
  match i,hi with
  | 0,_=>exact⟨k1,Or.inl h1⟩
  | 1,_=>exact⟨k2,Or.inl h2⟩
  | 2,_=>exact⟨k3,Or.inl h3⟩
  | 3,_=>exact⟨k4,Or.inl h4⟩⟩
theorem ai_mulI {r c:Int}(hr:0≤r∧r≤64) (hc:0≤c∧c≤64):arB .mul .i64 r c=some (r*c):=by
 obtain⟨a,rfl⟩:∃a:Nat,r=a:=⟨r.toNat,by omega⟩
 obtain⟨d,rfl⟩:∃d:Nat,c=d:=⟨c.toNat,by omega⟩
 have h:=Nat.mul_le_mul (show a≤64 by omega) (show d≤64 by omega)
 rw [ai_mul (a:=a) (b:=d) rfl rfl (by omega),Int.natCast_mul]
theorem UO.refl (A:Option Addr) (w:World):UpdO A w w:=⟨World.grownBy.refl _ _⟩
theorem UO.ext {A:Option Addr}{a w w':World}(h:UpdO A a w) (e:Ext w w'):UpdO A a w':=
 ⟨⟨e.below.os.trans h.by_.os,e.below.tape.trans h.by_.tape,e.below.output.trans h.by_.output,Nat.le_trans h.by_.size e.size,fun k hk hne=>(e.below.block k (Nat.lt_of_lt_of_le hk h.by_.size)).trans (h.by_.block k hk hne)⟩⟩
theorem UO.trans {A:Option Addr}{a w w':World}(h:UpdO A a w) (u:UpdO A w w'):UpdO A a w':=
 ⟨⟨u.by_.os.trans h.by_.os,u.by_.tape.trans h.by_.tape,u.by_.output.trans h.by_.output,Nat.le_trans h.by_.size u.size,fun k hk hne=>(u.by_.block k (Nat.lt_of_lt_of_le hk h.by_.size) hne).trans (h.by_.block k hk hne)⟩⟩
theorem UO.upd {A:Option Addr}{g:Nat}{a w w':World}(h:UpdO A a w) (u:Upd g w w') (hg:a.heap.size≤g):UpdO A a w':=
 ⟨⟨u.by_.os.trans h.by_.os,u.by_.tape.trans h.by_.tape,u.by_.output.trans h.by_.output,Nat.le_trans h.by_.size u.size,fun k hk hne=>(u.by_.block k (Nat.lt_of_lt_of_le hk h.by_.size) (fun e=>by injection e with e;omega)).trans (h.by_.block k hk hne)⟩⟩
def lf (X:Mx) (x:Int) (k:Nat):Mx:=fun i j=>if i=j∧i<k then X i j+x else X i j
theorem getD_set {α:Type}{l:List α}{i k:Nat}{a d:α}(hi:i<l.length):(l.set i a).getD k d=if k=i then a else l.getD k d:=by
 by_cases h:k=i
 ·subst h;rw [if_pos rfl,List.getD_eq_getElem?_getD,List.getElem?_set_self hi];rfl
 ·rw [if_neg h,List.getD_eq_getElem?_getD,List.getElem?_set_ne (fun e=>h e.symm),List.getD_eq_getElem?_getD]
def Snd (R C:Int) (n:Nat):Prop:=(0≤R∧R≤64)∧(0≤C∧C≤64)∧(n:Int)=R*C
theorem ci_le_t {a b:Int}(h:a≤b):cmpB .leq a b=some true:=by simp only [cmpB,decide_eq_true h]
theorem ci_le_f {a b:Int}(h:¬a≤b):cmpB .leq a b=some false:=by simp only [cmpB,decide_eq_false h]
theorem ci_lt_t {a b:Int}(h:a<b):cmpB .lss a b=some true:=by simp only [cmpB,decide_eq_true h]
theorem ci_lt_f {a b:Int}(h:¬a<b):cmpB .lss a b=some false:=by simp only [cmpB,decide_eq_false h]
theorem ci_ge_t {a b:Int}(h:a≥b):cmpB .geq a b=some true:=by simp only [cmpB,decide_eq_true h]
theorem ci_ge_f {a b:Int}(h:¬a≥b):cmpB .geq a b=some false:=by simp only [cmpB,decide_eq_false h]
theorem ci_eq_t {a b:Int}(h:a=b):cmpB .eql a b=some true:=by subst h;simp [cmpB]
theorem ci_eq_f {a b:Int}(h:a≠b):cmpB .eql a b=some false:=by simp [cmpB,h]
theorem ci_ne_t {a b:Int}(h:a≠b):cmpB .neq a b=some true:=by simp [cmpB,h]
theorem ci_ne_f {a b:Int}(h:a=b):cmpB .neq a b=some false:=by subst h;simp [cmpB]
def B1 (b:Nat) (z:Int) (v:Value) (w:World):Prop:=∃g s A n c,v= .slice (some ⟨g,0,none⟩) 1 1∧Bk w g 41 [.bool s,.slice A n c]∧Zr w b s A n c z
def Bld (c q:Nat) (f:Mx) (zs:List Int):Prop:=∀k,k<q→zs.getD k 0=f (k/c) (k%c)
theorem Bld.step {c i j q:Nat}{f:Mx}{zs:List Int}(h:Bld c q f zs) (hq:q=i*c+j) (hj:j<c) (hl:zs.length=q):Bld c (q+1) f (zs++ [f i j]):=fun k hk=>by
 by_cases h1:k<q
 ·rw [getD_app_l (by omega)];exact h k h1
 ·have e:k=zs.length:=by omega
  rw [e,getD_app_m,hl,hq,Nat.mul_comm,Nat.mul_add_div (by omega),Nat.div_eq_of_lt hj,Nat.mul_add_mod,Nat.mod_eq_of_lt hj,Nat.add_zero]
theorem Bld.en {r c q:Nat}{f:Mx}{zs:List Int}(h:Bld c q f zs) (hq:q=r*c):En r c f zs:=fun i j hi hj=>by
 have h1:=Nat.mul_le_mul_right c (show i+1≤r by omega)
 rw [Nat.add_mul] at h1
 rw [h (i*c+j) (by omega),Nat.mul_comm,Nat.mul_add_div (by omega),Nat.div_eq_of_lt hj,Nat.mul_add_mod,Nat.mod_eq_of_lt hj,Nat.add_zero]
theorem ln_sm {n K:Nat}{f:Nat→Int}(h:∀i,i<n→ln (f i)≤K):ln (sm n f)≤K+n:=by
 induction n with
 | zero=>exact Nat.zero_le _
 | succ n ih=>exact Nat.le_trans (ln_add (ih fun i hi=>h i (by omega)) (Nat.le_trans (h n (by omega)) (Nat.le_add_right K n))) (by omega)
theorem En.ln {r c:Nat}{f:Mx}{zs:List Int}{w:World}{A:Option Addr}{n cap K:Nat}(h:En r c f zs) (hz:ZF w A n cap K zs){i j:Nat}(hi:i<r) (hj:j<c):ln (f i j)≤K:=by
 rw [←h i j hi hj];exact hz.ln _
end Go.Proofs.YtnpbbknemflpnaaGreat

namespace Go.Proofs.YtnpbbknemflpnaaGreat
open Go.ChangeShapes Go.WideShapes Go.ChangeAt Go.RowKit
set_option maxRecDepth 20000 in
theorem open_zlcm {H:Type}{enc:TypeId×Value→H}{W:World}{v:Value}{d:DataW H}{p:List MemPlace}{fuel:Nat}
  (hf:DataW.trod enc Tryz.prog W 0 (fun _=>true) true fuel 22 [v]=some (d,p)):
  ∃A n cap zs ms,v= .slice A n cap∧Zl W A n cap zs ms∧n+ms.sum≤Rows.uptoBulk d:=by
 rcases Go.Deep.open_slice Tryz.underlying22 hf with⟨hcs,hx⟩ | ⟨a,n,cap,m,k,D,Pl,hcs,_,hl,hm,hmm,hx,hi⟩
 ·obtain rfl:=List.singleton_inj.1 hcs
  exact⟨none,0,0,[],[],rfl,⟨rfl,rfl,Nat.le_refl _,by decide,fun i hi=>by omega⟩,by simp⟩
 ·obtain rfl:=List.singleton_inj.1 hcs
  simp only [if_true] at hmm
  have hmm':=hmm.symm
  subst hmm'
  simp only [Prod.mk.injEq] at hx
  obtain⟨rfl,rfl⟩:=hx
  rw [cells_int] at hi
  have hel:∀i,i<cap→∃(q:Bool×Option Addr×Nat×Nat×Int),W.cell? (a.add (i*2))=some (.bool q.1)∧W.cell? (a.add (i*2+1))=some (.slice q.2.1 q.2.2.1 q.2.2.2.1)∧Zi W q.1 q.2.1 q.2.2.1 q.2.2.2.1 q.2.2.2.2∧q.2.2.1+1≤Rows.uptoBulk (D i):=by
   intro i him
   obtain⟨cs',hc,ht'⟩:=hi i him
   obtain⟨_,hcl,hat⟩:=World.cells?_some hc
   obtain⟨c0,c1,rfl⟩:=elem_len hcl
   have ht2:DataW.trod enc Tryz.prog W 0 (fun _=>true) true k 41 [c0,c1]=some (D i,Pl i):=ht'
   obtain⟨s,B,nb,c,z,rfl,rfl,hz,hb,rx⟩:=open_zcells ht2
   refine⟨(s,B,nb,c,z),?_,?_,hz,hb⟩
   ·have:=hat 0 (by simp)
    simpa [Go.Deep.add_add] using this
   ·have:=hat 1 (by simp)
    simpa [Go.Deep.add_add] using this
  obtain⟨Q,hQ⟩:=Go.Deep.choose_lt hel
  refine⟨some a,n,cap,(List.range n).map (fun i=>(Q i).2.2.2.2),(List.range n).map (fun i=>(Q i).2.2.1),rfl,⟨by simp,by simp,hl,hm,fun i hin=>?_⟩,?_⟩
  ·obtain⟨h1,h2,h3,_⟩:=hQ i (by omega)
   have e1:((List.range n).map (fun i=>(Q i).2.2.1)).getD i 0=(Q i).2.2.1:=by simp [List.getD_eq_getElem?_getD,hin]
   have e2:((List.range n).map (fun i=>(Q i).2.2.2.2)).getD i 0=(Q i).2.2.2.2:=by simp [List.getD_eq_getElem?_getD,hin]
   rw [e1,e2]
   exact⟨a,_,_,_,rfl,h1,h2,h3⟩
  ·have:=sum_map_le D (fun i=>(Q i).2.2.1) n (fun i hin=>(hQ i (by omega)).2.2.2)
   simp only [Rows.uptoBulk]
   omega
theorem three_m {α:Type}{l:List α}(h:l.length=3):∃a b c,l= [a,b,c]:=by
 match l,h with
 | [a,b,c],_=>exact⟨a,b,c,rfl⟩
theorem fields_mat:∃f0 f1 f2:Field,Tryz.prog.underlying 24=some (.struct #[f0,f1,f2])∧f0.type=3∧f0.offset=0∧f1.type=3∧f1.offset=1∧f2.type=22∧f2.offset=2:=
 ⟨_,_,_,Tryz.underlying24,rfl,rfl,rfl,rfl,rfl,rfl⟩
theorem cells_mat:Tryz.prog.cellsOf 24=3:=by kernel_rfl
theorem cells_im:Tryz.prog.cellsOf 3=1:=by kernel_rfl
theorem cells_lm:Tryz.prog.cellsOf 22=1:=by kernel_rfl
set_option maxRecDepth 20000 in
theorem open_mat {H:Type}{enc:TypeId×Value→H}{W:World}{base:Nat}{v:Value}{d:DataW H}{p:List MemPlace}
  (hval:Value.okWide Tryz.prog W .any base 24 v) (h:DataW.Trod enc Tryz.prog W 0 (fun _=>true) true 24 v d p):
  ∃(R C:Int) (A:Option Addr) (n c:Nat) (zs:List Int) (ms:List Nat),v= .agg #[.int .i64 R,.int .i64 C,.slice A n c]∧Zl W A n c zs ms∧n+ms.sum≤Rows.uptoBulk d:=by
 obtain⟨f0,f1,f2,hu,t0,o0,t1,o1,t2,o2⟩:=fields_mat
 obtain⟨fuel,hf0⟩:=h
 obtain⟨ys,n,_,hx,hcl,hyl,hf⟩:=DataW.trod_struct hu hf0
 rw [cells_mat] at hcl
 obtain⟨c0,c1,c2,hcs⟩:=three_m hcl
 obtain⟨y0,y1,y2,rfl⟩:=three_m (show ys.length=3 from hyl)
 obtain⟨vs,rfl⟩:∃vs:Array Value,v= .agg vs:=by
  obtain⟨cs,h1,_⟩:=okWide_struct hu hval
  exact⟨cs,h1⟩
 have hvs:vs.toList= [c0,c1,c2]:=hcs
 obtain rfl:vs= #[c0,c1,c2]:=by
  have:=congrArg List.toArray hvs
  simpa using this
 have g0:=hf 0 f0 rfl
 have g1:=hf 1 f1 rfl
 have g2:=hf 2 f2 rfl
 rw [t0,o0,cells_im] at g0
 rw [t1,o1,cells_im] at g1
 rw [t2,o2,cells_lm] at g2
 obtain⟨R,hR,_,_⟩:=DataW.trod_int Tryz.underlying3 (show DataW.trod enc Tryz.prog W 0 (fun _=>true) true n 3 [c0]=some y0 from g0)
 obtain⟨C,hC,_,_⟩:=DataW.trod_int Tryz.underlying3 (show DataW.trod enc Tryz.prog W 0 (fun _=>true) true n 3 [c1]=some y1 from g1)
 obtain⟨A,m,cap,zs,ms,rfl,hx2,hb2⟩:=open_zlcm (d:=y2.1) (p:=y2.2) (show DataW.trod enc Tryz.prog W 0 (fun _=>true) true n 22 [c2]=some y2 from g2)
 obtain rfl:=List.singleton_inj.1 hR
 obtain rfl:=List.singleton_inj.1 hC
 simp only [Prod.mk.injEq] at hx
 obtain⟨rfl,_⟩:=hx
 refine⟨R,C,A,m,cap,zs,ms,rfl,hx2,?_⟩
 simp only [Rows.uptoBulk,List.map_cons,Rows.uptoBulkAll]
 omega
theorem Zl.mat0 {w:World}{A:Option Addr}{n c:Nat}{zs:List Int}{ms:List Nat}(h:Zl w A n c zs ms):ZF w A n c ms.sum zs:=⟨ms,h,fun i=>getD_le_sum ms i⟩
end Go.Proofs.YtnpbbknemflpnaaGreat

namespace Go.Proofs.YtnpbbknemflpnaaGreat
open Go.RowKit
set_option maxHeartbeats 4000000 in
theorem g_mat_side_t {w:World}{R:Int}(hR:(0≤R∧R≤64)):
    Calls Tryz.prog 48 #[.int .i64 R] w (Gv w (Is (.bool true))):=by
 refine sx_enter Tryz.func48 rfl (n:=9) rfl (bq rfl) (args:= [.int .i64 R]) (cw_keep [(0,.int .i64 R)] ⟨rfl,trivial⟩ (sr (mv 1 rfl (ne_ (sr (mv 1 rfl (wl_cmp rfl rfl rfl true (ci_le_t hR.1) (by decide) (mv 2 rfl (wl_cmp rfl rfl rfl true (ci_le_t hR.2) (by decide) (pu (v:= .bool true) rfl (by kernel_rfl) (mv 1 rfl (ne_ (cw_ret ?_)))))))))))))
 refine eo_ret [.bool true] rfl ⟨rfl,trivial⟩ ?_
 exact⟨_,rfl,rfl,(Ext.refl w)⟩
set_option maxHeartbeats 4000000 in
theorem g_mat_side_f {w:World}{R:Int}(hR:¬(0≤R∧R≤64)):
    Calls Tryz.prog 48 #[.int .i64 R] w (Gv w (Is (.bool false))):=by
 refine sx_enter Tryz.func48 rfl (n:=9) rfl (bq rfl) (args:= [.int .i64 R]) (cw_keep [(0,.int .i64 R)] ⟨rfl,trivial⟩ (sr (mv 1 rfl (ne_ (cw_seq ?_)))))
 by_cases h1:0≤R
 · 
  have hR2:¬R≤64:=fun h=>hR ⟨h1,h⟩
  refine cw_region (mv 1 rfl (wl_cmp rfl rfl rfl true (ci_le_t h1) (by decide) (mv 2 rfl (wl_cmp rfl rfl rfl false (ci_le_f hR2) (by decide) (pu (v:= .bool false) rfl (by kernel_rfl) (mv 1 rfl (ne_ (cw_ret (eo_ret [F0] rfl ⟨rfl,trivial⟩ ?_)))))))))
  exact⟨_,rfl,rfl,(Ext.refl w)⟩
 · 
  refine cw_region (mv 1 rfl (wl_cmp rfl rfl rfl false (ci_le_f h1) (by decide) (mv 3 rfl (pu (v:= .bool false) rfl (by kernel_rfl) (mv 1 rfl (ne_ (cw_ret (eo_ret [F0] rfl ⟨rfl,trivial⟩ ?_))))))))
  exact⟨_,rfl,rfl,(Ext.refl w)⟩
set_option maxHeartbeats 4000000 in
theorem g_mat_Check_ok {w:World}{r c na capa:Nat}{Aa:Option Addr}(hr:r≤64) (hc:c≤64) (hn:na=r*c):
    Calls Tryz.prog 24 #[.agg #[.int .i64 ((r:Nat):Int),.int .i64 ((c:Nat):Int),.slice Aa na capa]] w (Gv w (Is (.int .i64 0))):=by
 have hrc:=ix_64 hr hc
 refine sx_enter Tryz.func24 rfl (n:=24) rfl (bq rfl) (args:= [.agg #[.int .i64 ((r:Nat):Int),.int .i64 ((c:Nat):Int),.slice Aa na capa]]) (cw_keep [(0,.agg #[.int .i64 ((r:Nat):Int),.int .i64 ((c:Nat):Int),.slice Aa na capa])] ⟨rfl,trivial⟩ (sr (bx [.int .i64 ((r:Nat):Int),.int .i64 ((c:Nat):Int),.slice Aa na capa] (Ext.refl w) rfl rfl rfl fun g1 v2 hb4 ge5 e3 hw1=>(mv 1 rfl (ne_ (cw_seq (sr (pf g1 0 rfl (by kernel_rfl) (wl_load rfl rfl (load_cell cellInt hb4 rfl) (by decide) (cl (vs:= [.int .i64 ((r:Nat):Int)]) hw1 (g_mat_side_t ⟨by omega,by omega⟩) rfl (by kernel_rfl) fun xr8 v6 r8 e7 hw2=>?_))))))))))
 obtain rfl:=r8
 refine pu (v:= .bool false) rfl (by kernel_rfl) (mv 1 rfl (pf g1 1 rfl (by kernel_rfl) (wl_load rfl rfl (load_cell cellInt (hb4.ext e7) rfl) (by decide) (cl (vs:= [.int .i64 ((c:Nat):Int)]) hw2 (g_mat_side_t ⟨by omega,by omega⟩) rfl (by kernel_rfl) fun xr11 v9 r11 e10 hw3=>?_))))
 obtain rfl:=r11
 refine pu (v:= .bool false) rfl (by kernel_rfl) (pu (v:= .bool false) rfl (by kernel_rfl) (mv 1 rfl (pf g1 2 rfl (by kernel_rfl) (wl_load rfl rfl (load_cell cellInts (hb4.ext (e7.trans e10)) rfl) (by decide) (pu (v:= .int .i64 ((na:Nat):Int)) rfl (by kernel_rfl) (pf g1 0 rfl (by kernel_rfl) (wl_load rfl rfl (load_cell cellInt (hb4.ext (e7.trans e10)) rfl) (by decide) (pf g1 1 rfl (by kernel_rfl) (wl_load rfl rfl (load_cell cellInt (hb4.ext (e7.trans e10)) rfl) (by decide) (wl_ar rfl rfl rfl ((r*c:Nat):Int) (ai_mul (a:=r) (b:=c) rfl rfl (by omega)) (by decide) (wl_cmp rfl rfl rfl false (cb_ne_f (a:=na) (b:=r*c) rfl rfl (by omega)) (by decide) (pu (v:= .bool false) rfl (by kernel_rfl) (wl_nil ?_)))))))))))))
 refine eo_then (cw_false rfl (cw_skip (eo_then (sr (mv 1 rfl (ne_ (cw_ret (eo_ret [I0] rfl ⟨rfl,trivial⟩ ?_))))))))
 exact⟨_,rfl,rfl,hw3⟩
set_option maxHeartbeats 4000000 in
theorem g_mat_Check_bad1 {w:World}{R C:Int}{na capa:Nat}{Aa:Option Addr}(hR:¬(0≤R∧R≤64)):
    Calls Tryz.prog 24 #[.agg #[.int .i64 R,.int .i64 C,.slice Aa na capa]] w (Gv w (Is (.int .i64 1))):=by
 refine sx_enter Tryz.func24 rfl (n:=24) rfl (bq rfl) (args:= [.agg #[.int .i64 R,.int .i64 C,.slice Aa na capa]]) (cw_keep [(0,.agg #[.int .i64 R,.int .i64 C,.slice Aa na capa])] ⟨rfl,trivial⟩ (sr (bx [.int .i64 R,.int .i64 C,.slice Aa na capa] (Ext.refl w) rfl rfl rfl fun g1 v2 hb4 ge5 e3 hw1=>(mv 1 rfl (ne_ (cw_seq (sr (pf g1 0 rfl (by kernel_rfl) (wl_load rfl rfl (load_cell cellInt hb4 rfl) (by decide) (cl (vs:= [.int .i64 R]) hw1 (g_mat_side_f hR) rfl (by kernel_rfl) fun xr8 v6 r8 e7 hw2=>?_))))))))))
 obtain rfl:=r8
 refine pu (v:= .bool true) rfl (by kernel_rfl) (mv 5 rfl (pu (v:= .bool true) rfl (by kernel_rfl) (mv 10 rfl (pu (v:= .bool true) rfl (by kernel_rfl) (ne_ (cw_true rfl (sr (mv 1 rfl (ne_ (cw_ret (eo_thenR (eo_ret [.int .i64 1] rfl ⟨rfl,trivial⟩ ?_))))))))))))
 exact⟨_,rfl,rfl,hw2⟩
set_option maxHeartbeats 4000000 in
theorem g_mat_Check_bad2 {w:World}{R C:Int}{na capa:Nat}{Aa:Option Addr}(hR:(0≤R∧R≤64)) (hC:¬(0≤C∧C≤64)):
    Calls Tryz.prog 24 #[.agg #[.int .i64 R,.int .i64 C,.slice Aa na capa]] w (Gv w (Is (.int .i64 1))):=by
 refine sx_enter Tryz.func24 rfl (n:=24) rfl (bq rfl) (args:= [.agg #[.int .i64 R,.int .i64 C,.slice Aa na capa]]) (cw_keep [(0,.agg #[.int .i64 R,.int .i64 C,.slice Aa na capa])] ⟨rfl,trivial⟩ (sr (bx [.int .i64 R,.int .i64 C,.slice Aa na capa] (Ext.refl w) rfl rfl rfl fun g1 v2 hb4 ge5 e3 hw1=>(mv 1 rfl (ne_ (cw_seq (sr (pf g1 0 rfl (by kernel_rfl) (wl_load rfl rfl (load_cell cellInt hb4 rfl) (by decide) (cl (vs:= [.int .i64 R]) hw1 (g_mat_side_t hR) rfl (by kernel_rfl) fun xr8 v6 r8 e7 hw2=>?_))))))))))
 obtain rfl:=r8
 refine pu (v:= .bool false) rfl (by kernel_rfl) (mv 1 rfl (pf g1 1 rfl (by kernel_rfl) (wl_load rfl rfl (load_cell cellInt (hb4.ext e7) rfl) (by decide) (cl (vs:= [.int .i64 C]) hw2 (g_mat_side_f hC) rfl (by kernel_rfl) fun xr11 v9 r11 e10 hw3=>?_))))
 obtain rfl:=r11
 refine pu (v:= .bool true) rfl (by kernel_rfl) (pu (v:= .bool true) rfl (by kernel_rfl) (mv 10 rfl (pu (v:= .bool true) rfl (by kernel_rfl) (ne_ (cw_true rfl (sr (mv 1 rfl (ne_ (cw_ret (eo_thenR (eo_ret [.int .i64 1] rfl ⟨rfl,trivial⟩ ?_)))))))))))
 exact⟨_,rfl,rfl,hw3⟩
set_option maxHeartbeats 4000000 in
theorem g_mat_Check_bad3 {w:World}{r c na capa:Nat}{Aa:Option Addr}(hr:r≤64) (hc:c≤64) (hn:na≠r*c):
    Calls Tryz.prog 24 #[.agg #[.int .i64 ((r:Nat):Int),.int .i64 ((c:Nat):Int),.slice Aa na capa]] w (Gv w (Is (.int .i64 1))):=by
 have hrc:=ix_64 hr hc
 refine sx_enter Tryz.func24 rfl (n:=24) rfl (bq rfl) (args:= [.agg #[.int .i64 ((r:Nat):Int),.int .i64 ((c:Nat):Int),.slice Aa na capa]]) (cw_keep [(0,.agg #[.int .i64 ((r:Nat):Int),.int .i64 ((c:Nat):Int),.slice Aa na capa])] ⟨rfl,trivial⟩ (sr (bx [.int .i64 ((r:Nat):Int),.int .i64 ((c:Nat):Int),.slice Aa na capa] (Ext.refl w) rfl rfl rfl fun g1 v2 hb4 ge5 e3 hw1=>(mv 1 rfl (ne_ (cw_seq (sr (pf g1 0 rfl (by kernel_rfl) (wl_load rfl rfl (load_cell cellInt hb4 rfl) (by decide) (cl (vs:= [.int .i64 ((r:Nat):Int)]) hw1 (g_mat_side_t ⟨by omega,by omega⟩) rfl (by kernel_rfl) fun xr8 v6 r8 e7 hw2=>?_))))))))))
 obtain rfl:=r8
 refine pu (v:= .bool false) rfl (by kernel_rfl) (mv 1 rfl (pf g1 1 rfl (by kernel_rfl) (wl_load rfl rfl (load_cell cellInt (hb4.ext e7) rfl) (by decide) (cl (vs:= [.int .i64 ((c:Nat):Int)]) hw2 (g_mat_side_t ⟨by omega,by omega⟩) rfl (by kernel_rfl) fun xr11 v9 r11 e10 hw3=>?_))))
 obtain rfl:=r11
 refine pu (v:= .bool false) rfl (by kernel_rfl) (pu (v:= .bool false) rfl (by kernel_rfl) (mv 1 rfl (pf g1 2 rfl (by kernel_rfl) (wl_load rfl rfl (load_cell cellInts (hb4.ext (e7.trans e10)) rfl) (by decide) (pu (v:= .int .i64 ((na:Nat):Int)) rfl (by kernel_rfl) (pf g1 0 rfl (by kernel_rfl) (wl_load rfl rfl (load_cell cellInt (hb4.ext (e7.trans e10)) rfl) (by decide) (pf g1 1 rfl (by kernel_rfl) (wl_load rfl rfl (load_cell cellInt (hb4.ext (e7.trans e10)) rfl) (by decide) (wl_ar rfl rfl rfl ((r*c:Nat):Int) (ai_mul (a:=r) (b:=c) rfl rfl (by omega)) (by decide) (wl_cmp rfl rfl rfl true (cb_ne_t (a:=na) (b:=r*c) rfl rfl (by omega)) (by decide) (pu (v:= .bool true) rfl (by kernel_rfl) (wl_nil ?_)))))))))))))
 refine eo_then (cw_true rfl (sr (mv 1 rfl (ne_ (cw_ret (eo_thenR (eo_ret [.int .i64 1] rfl ⟨rfl,trivial⟩ ?_)))))))
 exact⟨_,rfl,rfl,hw3⟩
theorem g_mat_Check_no {w:World}{R C:Int}{na capa:Nat}{Aa:Option Addr}(h:¬Snd R C na):Calls Tryz.prog 24 #[.agg #[.int .i64 R,.int .i64 C,.slice Aa na capa]] w (Gv w (Is (.int .i64 1))):=by
 by_cases hR:0≤R∧R≤64
 ·by_cases hC:0≤C∧C≤64
  ·obtain⟨r,rfl⟩:∃r:Nat,R=r:=⟨R.toNat,by omega⟩
   obtain⟨c,rfl⟩:∃c:Nat,C=c:=⟨C.toNat,by omega⟩
   exact g_mat_Check_bad3 (by omega) (by omega) (fun e=>h ⟨hR,hC,by rw [e];exact Int.natCast_mul r c⟩)
  ·exact g_mat_Check_bad2 hR hC
 ·exact g_mat_Check_bad1 hR
theorem g_mat_Check_yes {w:World}{R C:Int}{na capa:Nat}{Aa:Option Addr}(h:Snd R C na):Calls Tryz.prog 24 #[.agg #[.int .i64 R,.int .i64 C,.slice Aa na capa]] w (Gv w (Is (.int .i64 0))):=by
 obtain⟨h1,h2,h3⟩:=h
 obtain⟨r,rfl⟩:∃r:Nat,R=r:=⟨R.toNat,by omega⟩
 obtain⟨c,rfl⟩:∃c:Nat,C=c:=⟨C.toNat,by omega⟩
 exact g_mat_Check_ok (by omega) (by omega) (by rw [←Int.natCast_mul] at h3;omega)
theorem snd_mk {r c n:Nat}(hr:r≤64) (hc:c≤64) (hn:n=r*c):Snd (r:Int) (c:Int) n:=⟨⟨by omega,by omega⟩,⟨by omega,by omega⟩,by rw [hn];exact Int.natCast_mul r c⟩
set_option maxHeartbeats 4000000 in
set_option maxRecDepth 20000 in
theorem g_mat_each {w:World}{b lb:Nat}(hb:b≤w.heap.size) (hlb:lb≤w.heap.size){Aa:Option Addr}{na capa K:Nat}{zs:List Int}(hxa:ZF w Aa na capa K zs) (hna:na≤1048576) (hKB:K≤17179869184):
    Calls Tryz.prog 65 #[.slice Aa na capa,.func (.func 46) #[] #[]] w (Gv w (LE none K b lb na zs)):=by
 obtain⟨msa,hla,hma⟩:=hxa
 refine sx_enter Tryz.func65 rfl (n:=26) rfl (bq rfl) (args:= [.slice Aa na capa,.func (.func 46) #[] #[]]) (cw_keep [(0,.slice Aa na capa),(1,.func (.func 46) #[] #[])] ⟨rfl,rfl,trivial⟩ (sr (mv 1 rfl (ne_ (sr (mv 1 rfl (pu (v:= .int .i64 ((na:Nat):Int)) rfl (by kernel_rfl) (wl_makeL (k:=na) none K w.heap.size rfl rfl rfl (by omega) (by decide) fun g1 v2 hg3 lz4 e5=>?_))))))))
 have hlbg1:g1≤v2.heap.size:=by have:=(lz4.block _ rfl).2;exact Nat.le_of_lt this
 have hglg1:w.heap.size≤g1:=by rw [←hg3];exact (Ext.refl w).size
 clear hg3
 have hw1:=(Ext.refl w).trans e5
 have blk6:=lz4.block
 refine mv 1 rfl (ne_ (cw_seq (sr (mv 1 rfl (pu (v:= .int .i64 ((na:Nat):Int)) rfl (by kernel_rfl) (mv 1 rfl (ne_ (cw_block ?_))))))))
 have hl8:=lz4
 rw [upto5_zero zs na] at hl8
 refine cw_loop (T:=World×Nat) (fun⟨wr,i⟩=> [(0,.slice Aa na capa),(1,.func (.func 46) #[] #[]),(4,.slice none 0 0),(5,.slice (some ⟨g1,0,none⟩) na na),(8,.slice Aa na capa),(9,.int .i64 ((na:Nat):Int)),(10,.slice (some ⟨g1,0,none⟩) na na),(11,.slice Aa na capa),(12,.int .i64 ((na:Nat):Int)),(13,.int .i64 ((i:Nat):Int))]) (fun⟨wr,i⟩=>wr) (fun⟨wr,i⟩=>(Ext w wr)∧(i≤na)∧(g1≤wr.heap.size)∧(Lz none K w.heap.size wr g1 (some ⟨g1,0,none⟩) na na (upto5 zs na i))) (fun⟨wr,i⟩=>na-i)
  (⟨v2,0⟩:World×Nat) ⟨hw1,(by omega),hlbg1,hl8⟩ rfl ⟨rfl,rfl,rfl,rfl,rfl,rfl,rfl,rfl,rfl,rfl,trivial⟩ ?_
 rintro⟨wr,i⟩ ⟨hw1,hi_i,l_someg10noneb,l_someg10none⟩
 refine cw_re [(0,.slice Aa na capa),(1,.func (.func 46) #[] #[]),(4,.slice none 0 0),(5,.slice (some ⟨g1,0,none⟩) na na),(8,.slice Aa na capa),(9,.int .i64 ((na:Nat):Int)),(10,.slice (some ⟨g1,0,none⟩) na na),(11,.slice Aa na capa),(12,.int .i64 ((na:Nat):Int)),(13,.int .i64 ((i:Nat):Int))] wr rfl ⟨rfl,rfl,rfl,rfl,rfl,rfl,rfl,rfl,rfl,rfl,trivial⟩ ?_
 have blk7:=l_someg10none.block
 refine cw_seq ?_
 by_cases hin:i<na
 · 
  refine cw_region (wl_cmp rfl rfl rfl true (cb_lt_t (a:=i) (b:=na) rfl rfl (by omega)) (by decide) (ne_ (cw_seq (cw_true rfl (cw_skip (eo_then (cw_seq (cw_block (sr (mv 1 rfl ?_))))))))))
  obtain⟨pz8,sz8,Bz8,cz8,hpz8,ldz8,ez8⟩:=hla.at (i:=i) (by omega)
  refine wl_idx rfl rfl rfl elemI aggInt.size i rfl (by omega) pz8 hpz8 (by decide) (wl_load rfl rfl (ldz8 _ hw1 _ _ aggInt) (by decide) (wl_alloc rfl (z:= .agg #[F0,S0]) (vs:= [F0,S0]) (fun _=>by kernel_rfl) rfl (by decide) fun g9 v10 nb=>?_))
  have hb12:=nb.bk
  have ge13:w.heap.size≤g9:=by rw [←nb.at_];exact hw1.size
  have ne14:∀p:Addr,(some ⟨g1,0,none⟩)=some p→p.block≠g9:=fun p hp=>by have:=(l_someg10none).block p hp;have:=nb.at_;omega
  have e11:=nb.ext
  clear nb
  have hw2:=hw1.trans e11
  refine mv 1 rfl (so aggInt hb12 [.bool sz8,.slice Bz8 (msa.getD i 0) cz8] hw2 ge13 rfl rfl rfl rfl fun v15 hb17 u18 hw3=>(ne_ (cw_region (mv 3 rfl (lo aggInt hb17 [.bool sz8,.slice Bz8 (msa.getD i 0) cz8] rfl rfl rfl (wl_callF [.agg #[.bool sz8,.slice Bz8 (msa.getD i 0) cz8]] rfl rfl rfl (enters_of Tryz.func46 (by kernel_rfl) rfl) (by decide) (g_zint_Least hw3.size (ez8.ext hw3) (Nat.le_trans (hma i) (lx_ hKB rfl))) ?_))))))
  rintro _ v20 ⟨xr22,rfl,r22,e21⟩
  refine ret_intro ?_
  have hw4:=hw3.trans e21
  obtain⟨s23,A23,n23,c23,rfl,z23⟩:=r22
  obtain⟨pz24,sz24,Bz24,nz24,cz24,hpz24,ldz24,hKz24,ez24⟩:=((((l_someg10none.ext e11).updT hb12 u18 ne14).ext e21)).at (i:=i) (by omega)
  have zz24:=ez24.zr
  have Lz24:ln ((upto5 zs na i).getD i 0)≤K:=zz24.ln_le hKz24
  refine wl_idx rfl rfl rfl elemI aggInt.size i rfl (by omega) pz24 hpz24 (by decide) ?_
  have lt30:=(((l_someg10none.ext e11).updT hb12 u18 ne14).ext e21)
  obtain⟨us28,own29⟩:=lt30.own
  refine wl_setI (e:=⟨s23,A23,n23,c23⟩) (z:=(zs.getD i 0)) rfl rfl rfl hpz24 (by omega) lt30 (Or.inl z23) (z23.le (Nat.le_trans ez8.ln (hma i))) fun v25 lz26 uo27=>?_
  have hw5:=uo27.ext hw4 (fun p hp=>by have:=blk7 p hp;omega)
  have hlblz26:g1≤v25.heap.size:=Nat.le_trans (Nat.le_trans (Nat.le_trans (Nat.le_trans l_someg10noneb e11.size) u18.by_.size) e21.size) uo27.size
  refine wl_nil (eo_block_normal (eo_then (cw_region (wl_ar rfl rfl rfl ((i+1:Nat):Int) (ai_add (a:=i) (b:=1) rfl rfl (by omega)) (by decide) (mv 1 rfl (wl_nil ?_))))))
  have hl9:=lz26
  rw [upto5_succ hla.len hin] at hl9
  refine eo_round (⟨v25,i+1⟩:World×Nat) ⟨hw5,(by omega),hlblz26,hl9⟩ (show na-(i+1)<na-i by omega) rfl ⟨rfl,rfl,rfl,rfl,rfl,rfl,rfl,rfl,rfl,rfl,trivial⟩
 · 
  refine cw_region (wl_cmp rfl rfl rfl false (cb_lt_f (a:=i) (b:=na) rfl rfl (by omega)) (by decide) (ne_ (cw_seq (cw_false rfl (cw_exit (eo_thenX (eo_loopX (eo_block_here (eo_then (sr (mv 2 rfl (ne_ (cw_ret ?_)))))))))))))
  refine eo_ret [.slice (some ⟨g1,0,none⟩) na na] rfl ⟨rfl,trivial⟩ ?_
  have hl7:=(l_someg10none).mono (Nat.le_refl _) hb (Nat.le_trans hlb hglg1)
  rw [show i=na by omega,upto5_full hla.len] at hl7
  exact⟨_,rfl,⟨_,_,rfl,hl7⟩,hw1⟩
set_option maxHeartbeats 4000000 in
set_option maxRecDepth 20000 in
theorem g_mat_Least {w:World}{b lb:Nat}(hb:b≤w.heap.size) (hlb:lb≤w.heap.size){r c K:Nat}{Aa:Option Addr}{na capa:Nat}{zs:List Int}(hxa:ZF w Aa na capa K zs) (hr:r≤64) (hc:c≤64) (hna:na=r*c) (hKB:K≤17179869184):
    Calls Tryz.prog 63 #[.agg #[.int .i64 ((r:Nat):Int),.int .i64 ((c:Nat):Int),.slice Aa na capa]] w (Gv w (T2 (MQ ((r:Nat):Int) ((c:Nat):Int) (LE none K b lb na zs)) (Is (.int .i64 0)))):=by
 have hxa0:=hxa
 obtain⟨msa,hla,hma⟩:=hxa
 have hrc:=ix_64 hr hc
 refine sx_enter Tryz.func63 rfl (n:=19) rfl (bq rfl) (args:= [.agg #[.int .i64 ((r:Nat):Int),.int .i64 ((c:Nat):Int),.slice Aa na capa]]) (cw_keep [(0,.agg #[.int .i64 ((r:Nat):Int),.int .i64 ((c:Nat):Int),.slice Aa na capa])] ⟨rfl,trivial⟩ (sr (bx [.int .i64 ((r:Nat):Int),.int .i64 ((c:Nat):Int),.slice Aa na capa] (Ext.refl w) rfl rfl rfl fun g1 v2 hb4 ge5 e3 hw1=>(alq [I0,I0,S0] hw1 hb4.lt (fun _=>by kernel_rfl) rfl fun g6 v7 hb9 ge10 q11 e8 hw2=>(mv 1 rfl (ne_ (cw_seq (sr (lo aggMat (hb4.ext e8) [.int .i64 ((r:Nat):Int),.int .i64 ((c:Nat):Int),.slice Aa na capa] rfl rfl rfl (cl (vs:= [.agg #[.int .i64 ((r:Nat):Int),.int .i64 ((c:Nat):Int),.slice Aa na capa]]) hw2 (g_mat_Check_ok (by omega) (by omega) hna) rfl (by kernel_rfl) fun xr14 v12 r14 e13 hw3=>?_))))))))))
 obtain rfl:=r14
 refine mv 1 rfl (ne_ (sr (mv 1 rfl (wl_cmp rfl rfl rfl false (by decide) (by decide) (ne_ (cw_false rfl (cw_skip (eo_then (cw_seq ?_)))))))))
 obtain⟨lb15,hlb15,hlelb15,hgl15,hq15_0,hq15_1⟩:∃lb,lb≤v12.heap.size∧v12.heap.size≤lb∧w.heap.size≤lb∧g1<lb∧g6<lb:=⟨v12.heap.size,Nat.le_refl _,Nat.le_refl _,hw3.size,(hb4.ext (e8.trans e13)).lt,(hb9.ext e13).lt⟩
 refine cw_draw mix 8 [] [Is (.pointer (some ⟨g1,0,none⟩)),Is (.int .i64 ((r:Nat):Int)),Is (.pointer (some ⟨g1,1,none⟩)),Is (.int .i64 ((c:Nat):Int)),Is (.pointer (some ⟨g1,2,none⟩)),Is (.slice Aa na capa),LE none K w.heap.size lb15 na zs,MQ ((r:Nat):Int) ((c:Nat):Int) (LE none K w.heap.size lb15 na zs)] [[],[0],[],[2],[],[4],[5],[1,3,6]] [[],[0],[],[2],[],[4],[4,5],[0,1,2,3,4,5,6],[0,1,2,3,4,5,6,7],[0,1,2,3,4,5,6,7,8]] rfl
  (obs_cons rfl rfl (hob rfl rfl ?_) (obs_cons rfl rfl (hob rfl rfl ?_) (obs_cons rfl rfl (hob rfl rfl ?_) (obs_cons rfl rfl (hob rfl rfl ?_) (obs_cons rfl rfl (hob rfl rfl ?_) (obs_cons rfl rfl (hob rfl rfl ?_) (obs_cons rfl rfl (hob rfl rfl ?_) (obs_cons rfl rfl (hob rfl rfl ?_) obs_nil)))))))) ?_
 · 
  exact fun _ _=>deps_nil (pf g1 0 rfl (by kernel_rfl) (pi_done rfl (Ext.refl _) rfl))
 · 
  exact fun _ e24=>dk rfl rfl (deps_nil (wl_load rfl rfl (load_cell cellInt (hb4.ext (e8.trans (e13.trans e24))) rfl) (by decide) (pi_done rfl (Ext.refl _) rfl)))
 · 
  exact fun _ _=>deps_nil (pf g1 1 rfl (by kernel_rfl) (pi_done rfl (Ext.refl _) rfl))
 · 
  exact fun _ e33=>dk rfl rfl (deps_nil (wl_load rfl rfl (load_cell cellInt (hb4.ext (e8.trans (e13.trans e33))) rfl) (by decide) (pi_done rfl (Ext.refl _) rfl)))
 · 
  exact fun _ _=>deps_nil (pf g1 2 rfl (by kernel_rfl) (pi_done rfl (Ext.refl _) rfl))
 · 
  exact fun _ e42=>dk rfl rfl (deps_nil (wl_load rfl rfl (load_cell cellInts (hb4.ext (e8.trans (e13.trans e42))) rfl) (by decide) (pi_done rfl (Ext.refl _) rfl)))
 · 
  intro v48 e49
  have hw4:=hw3.trans e49
  refine dk rfl rfl (deps_nil (cl (vs:= [.slice Aa na capa,.func (.func 46) #[] #[]]) hw4 (g_mat_each hw4.size (Nat.le_trans hlb15 e49.size) ((show ZF w _ _ _ _ _ from⟨msa,hla,hma⟩).ext hw4) (by omega) hKB) rfl (by kernel_rfl) fun xr57 v55 r57 e56 hw5=>?_))
  obtain⟨LA58,lc58,rfl,lz58⟩:=r57
  have blk59:=lz58.block
  exact pi_done rfl e56 ⟨_,_,rfl,lz58⟩
 · 
  intro v60 e61
  refine dk rfl rfl (dk rfl rfl (deps_cons rfl rfl fun x72 y73 h74 e75 f76=>?_))
  obtain⟨LA77,lc77,rfl,lz77⟩:=h74
  have blk78:=lz77.block
  have lz77:=lz77.ext f76
  refine deps_nil (pu (v:= .agg #[.int .i64 ((r:Nat):Int),.int .i64 ((c:Nat):Int),.slice LA77 na lc77]) rfl (by kernel_rfl) ?_)
  exact pi_done rfl (Ext.refl _) ⟨_,rfl,⟨_,_,rfl,lz77⟩⟩
 · 
  intro v79 e80
  have hw4:=hw3.trans e80
  refine dk rfl rfl (dk rfl rfl (dk rfl rfl (dk rfl rfl (dk rfl rfl (dk rfl rfl (deps_cons rfl rfl fun x111 y112 h113 e114 f115=>?_))))))
  obtain⟨LA116,lc116,rfl,lz116⟩:=h113
  have blk117:=lz116.block
  have lz116:=lz116.ext f115
  refine deps_cons rfl rfl fun x118 y119 h120 e121 f122=>?_
  obtain⟨lv123,rfl,⟨LA124,lc124,rfl,lz124⟩⟩:=h120
  have blk125:=lz124.block
  have lz124:=lz124.ext f122
  refine deps_nil ?_
  have hb127:=(hb9.ext (e13.trans e80))
  refine so aggMat hb127 [.int .i64 ((r:Nat):Int),.int .i64 ((c:Nat):Int),.slice LA124 na lc124] hw4 ge10 rfl rfl rfl rfl fun v126 hb128 u129 hw5=>(mv 1 rfl (wl_nil (eo_np (eo_then (cw_ret (eo_ret [.agg #[.int .i64 ((r:Nat):Int),.int .i64 ((c:Nat):Int),.slice LA124 na lc124],I0] rfl ⟨⟨_,rfl,load_agg aggMat hb128 [.int .i64 ((r:Nat):Int),.int .i64 ((c:Nat):Int),.slice LA124 na lc124] rfl (bq rfl) rfl⟩,rfl,trivial⟩ ?_))))))
  exact⟨_,rfl,⟨_,_,rfl,⟨_,rfl,⟨_,_,rfl,((lz124.updT hb127 u129 (show∀p:Addr,LA124=some p→p.block≠g6 from fun p hp=>by have:=blk125 p hp;omega))).mono (Nat.le_refl _) hb (Nat.le_trans hlb hgl15)⟩⟩,rfl⟩,hw5⟩
set_option maxHeartbeats 4000000 in
theorem g_top_copyIntI {w:World}{sa:Bool}{Aa:Option Addr}{na ca:Nat}{x:Int}(hx:Zi w sa Aa na ca x) (la:na≤1048576):
    Calls Tryz.prog 50 #[.agg #[.bool sa,.slice Aa na ca]] w (Gv w (ZOR w.heap.size sa na x)):=by
 have hx0:=hx
 obtain⟨xs,hrx,hxe⟩:=hx0
 have Lx:ln x≤1048576:=Nat.le_trans hx.ln la
 refine sx_enter Tryz.func50 rfl (n:=10) rfl (bq rfl) (args:= [.agg #[.bool sa,.slice Aa na ca]]) (cw_keep [(0,.agg #[.bool sa,.slice Aa na ca])] ⟨rfl,trivial⟩ (sr (bx [.bool sa,.slice Aa na ca] (Ext.refl w) rfl rfl rfl fun g1 v2 hb4 ge5 e3 hw1=>(alq [F0,S0] hw1 hb4.lt (fun _=>by kernel_rfl) rfl fun g6 v7 hb9 ge10 q11 e8 hw2=>(ne_ (cw_seq ?_))))))
 refine cw_draw mix 7 [] [Is (.pointer (some ⟨g1,0,none⟩)),Is (.bool sa),fun v' w'=>∃g,v'= .slice (some ⟨g,0,none⟩) 0 0∧v7.heap.size≤g∧Bk w' g 45 [],Is (.pointer (some ⟨g1,1,none⟩)),Is (.slice Aa na ca),fun v' w'=>∃A c,v'= .slice A na c∧Own w' w.heap.size 45 1 A na c (xs.map W64),ZOR w.heap.size sa na x] [[],[0],[],[],[3],[2,4],[1,5]] [[],[0],[],[],[3],[2,3,4],[0,1,2,3,4,5],[0,1,2,3,4,5,6]] rfl
  (obs_cons rfl rfl (hob rfl rfl ?_) (obs_cons rfl rfl (hob rfl rfl ?_) (obs_cons rfl rfl (hob rfl rfl ?_) (obs_cons rfl rfl (hob rfl rfl ?_) (obs_cons rfl rfl (hob rfl rfl ?_) (obs_cons rfl rfl (hob rfl rfl ?_) (obs_cons rfl rfl (hob rfl rfl ?_) obs_nil))))))) ?_
 · 
  exact fun _ _=>deps_nil (pf g1 0 rfl (by kernel_rfl) (pi_done rfl (Ext.refl _) rfl))
 · 
  exact fun _ e18=>dk rfl rfl (deps_nil (wl_load rfl rfl (load_cell cellBool (hb4.ext (e8.trans e18)) rfl) (by decide) (pi_done rfl (Ext.refl _) rfl)))
 · 
  intro v24 e25
  have hw3:=hw2.trans e25
  refine deps_nil (wl_bslice rfl rfl (by decide) (k:=0) (e:=45) [] (fun _=>by kernel_rfl) fun g26 v27 nb=>?_)
  have hb29:=nb.bk
  have e28:=nb.ext
  have hg30:v7.heap.size≤g26:=by rw [←nb.at_];exact e25.size
  clear nb
  have hw4:=hw3.trans e28
  exact pi_done rfl e28 ⟨_,rfl,hg30,hb29⟩
 · 
  exact fun _ _=>deps_nil (pf g1 1 rfl (by kernel_rfl) (pi_done rfl (Ext.refl _) rfl))
 · 
  exact fun _ e34=>dk rfl rfl (deps_nil (wl_load rfl rfl (load_cell cellWords (hb4.ext (e8.trans e34)) rfl) (by decide) (pi_done rfl (Ext.refl _) rfl)))
 · 
  intro v40 e41
  have hw3:=hw2.trans e41
  refine deps_cons rfl rfl fun x42 y43 h44 e45 f46=>?_
  obtain⟨ge47,rfl,hge47,hbe47⟩:=h44
  have hbe47:=hbe47.ext f46
  refine dk rfl rfl (deps_nil (wl_app0 rfl rfl rfl Tryz.underlying39 info64 rfl (by decide) (Nat.le_trans hw2.size hge47) hw3.size hbe47 (hrx.ext hw3).rv (W64_oneCell xs) (by omega) (by decide) fun A53 c54 v55 ho56 e57=>?_))
  have hw4:=hw3.trans e57
  exact pi_done rfl e57 ⟨_,_,rfl,ho56⟩
 · 
  intro v58 e59
  refine dk rfl rfl (deps_cons rfl rfl fun x65 y66 h67 e68 f69=>?_)
  obtain⟨Ao70,co70,rfl,ox70⟩:=h67
  have ox70:=ox70.ext f69
  refine deps_nil (pu (v:= .agg #[.bool sa,.slice Ao70 na co70]) rfl (by kernel_rfl) ?_)
  exact pi_done rfl (Ext.refl _) ⟨_,_,rfl,(show Zo _ _ sa _ _ _ x from⟨xs,ox70,hrx.wf,hxe⟩)⟩
 · 
  intro v71 e72
  have hw3:=hw2.trans e72
  refine dk rfl rfl (dk rfl rfl (deps_cons rfl rfl fun x83 y84 h85 e86 f87=>?_))
  obtain⟨ge88,rfl,hge88,hbe88⟩:=h85
  have hbe88:=hbe88.ext f87
  refine dk rfl rfl (dk rfl rfl (deps_cons rfl rfl fun x99 y100 h101 e102 f103=>?_))
  obtain⟨Ao104,co104,rfl,ox104⟩:=h101
  have ox104:=ox104.ext f103
  refine deps_cons rfl rfl fun x105 y106 h107 e108 f109=>?_
  obtain⟨Az110,cz110,rfl,zo110⟩:=h107
  have zo110:=zo110.ext f109
  refine deps_nil ?_
  have hb112:=(hb9.ext e72)
  refine so aggInt hb112 [.bool sa,.slice Az110 na cz110] hw3 ge10 rfl rfl rfl rfl fun v111 hb113 u114 hw4=>(wl_nil (eo_np (eo_then (cw_ret (eo_ret [.agg #[.bool sa,.slice Az110 na cz110]] rfl ⟨⟨_,rfl,load_agg aggInt hb113 [.bool sa,.slice Az110 na cz110] rfl (bq rfl) rfl⟩,trivial⟩ ?_)))))
  exact⟨_,rfl,⟨_,_,rfl,(zo110.updT hb112 u114)⟩,hw4⟩
theorem g_top_copyInt {w:World}{b:Nat}(hb:b≤w.heap.size){sa:Bool}{Aa:Option Addr}{na ca:Nat}{x:Int}(hx:Zi w sa Aa na ca x) (la:na≤1048576):
  Calls Tryz.prog 50 #[.agg #[.bool sa,.slice Aa na ca]] w (Gv w (ZOR b sa na x)):=(g_top_copyIntI hx la).mono (Gv.imp (ZOR.imp hb))
set_option maxHeartbeats 4000000 in
set_option maxRecDepth 20000 in
theorem g_top_copyRow {w:World}{b lb:Nat}(hb:b≤w.heap.size) (hlb:lb≤w.heap.size){w0:World}(hw0:Ext w0 w){Aa:Option Addr}{na capa:Nat}{zs:List Int}(hxa:ZF w Aa na capa 1048576 zs) (hna:na≤1048576):
    Calls Tryz.prog 29 #[.slice Aa na capa] w (Gv w (LE (some w0) 1048576 b lb na zs)):=by
 obtain⟨msa,hla,hma⟩:=hxa
 refine sx_enter Tryz.func29 rfl (n:=23) rfl (bq rfl) (args:= [.slice Aa na capa]) (cw_keep [(0,.slice Aa na capa)] ⟨rfl,trivial⟩ (sr (mv 1 rfl (ne_ (sr (mv 1 rfl (pu (v:= .int .i64 ((na:Nat):Int)) rfl (by kernel_rfl) (wl_makeL (k:=na) (some w0) 1048576 w.heap.size rfl rfl rfl (by omega) (by decide) fun g1 v2 hg3 lz4 e5=>?_))))))))
 have hlbg1:g1≤v2.heap.size:=by have:=(lz4.block _ rfl).2;exact Nat.le_of_lt this
 have hglg1:w.heap.size≤g1:=by rw [←hg3];exact (Ext.refl w).size
 clear hg3
 have hw1:=(Ext.refl w).trans e5
 have blk6:=lz4.block
 refine mv 1 rfl (ne_ (cw_seq (sr (mv 1 rfl (ne_ (cw_block ?_))))))
 have hl8:=lz4
 rw [upto5_zero zs na] at hl8
 refine cw_loop (T:=World×Nat) (fun⟨wr,i⟩=> [(0,.slice Aa na capa),(2,.slice none 0 0),(3,.slice (some ⟨g1,0,none⟩) na na),(4,.int .i64 ((i:Nat):Int)),(5,.slice Aa na capa),(6,.int .i64 ((na:Nat):Int)),(7,.slice (some ⟨g1,0,none⟩) na na)]) (fun⟨wr,i⟩=>wr) (fun⟨wr,i⟩=>(Ext w wr)∧(i≤na)∧(g1≤wr.heap.size)∧(Lz (some w0) 1048576 w.heap.size wr g1 (some ⟨g1,0,none⟩) na na (upto5 zs na i))) (fun⟨wr,i⟩=>na-i)
  (⟨v2,0⟩:World×Nat) ⟨hw1,(by omega),hlbg1,hl8⟩ rfl ⟨rfl,rfl,rfl,rfl,rfl,rfl,rfl,trivial⟩ ?_
 rintro⟨wr,i⟩ ⟨hw1,hi_i,l_someg10noneb,l_someg10none⟩
 refine cw_re [(0,.slice Aa na capa),(2,.slice none 0 0),(3,.slice (some ⟨g1,0,none⟩) na na),(4,.int .i64 ((i:Nat):Int)),(5,.slice Aa na capa),(6,.int .i64 ((na:Nat):Int)),(7,.slice (some ⟨g1,0,none⟩) na na)] wr rfl ⟨rfl,rfl,rfl,rfl,rfl,rfl,rfl,trivial⟩ ?_
 have blk7:=l_someg10none.block
 refine cw_seq (cw_seq ?_)
 by_cases hin:i<na
 · 
  refine cw_region (mv 2 rfl (pu (v:= .int .i64 ((na:Nat):Int)) rfl (by kernel_rfl) (wl_cmp rfl rfl rfl true (cb_lt_t (a:=i) (b:=na) rfl rfl (by omega)) (by decide) (ne_ (cw_true rfl (cw_skip (eo_then (cw_seq (cw_block (cw_region (mv 4 rfl ?_)))))))))))
  obtain⟨pz8,sz8,Bz8,cz8,hpz8,ldz8,ez8⟩:=hla.at (i:=i) (by omega)
  refine wl_idx rfl rfl rfl elemI aggInt.size i rfl (by omega) pz8 hpz8 (by decide) (wl_load rfl rfl (ldz8 _ hw1 _ _ aggInt) (by decide) (cl (vs:= [.agg #[.bool sz8,.slice Bz8 (msa.getD i 0) cz8]]) hw1 (g_top_copyInt hw1.size (ez8.ext hw1) (Nat.le_trans (hma i) (by decide))) rfl (by kernel_rfl) fun xr11 v9 r11 e10 hw2=>?_))
  obtain⟨Az12,cz12,rfl,zo12⟩:=r11
  obtain⟨pz13,sz13,Bz13,nz13,cz13,hpz13,ldz13,hKz13,ez13⟩:=((l_someg10none.ext e10)).at (i:=i) (by omega)
  have Lz13:ln ((upto5 zs na i).getD i 0)≤1048576:=Nat.le_trans (ez13.zi (hw0.trans hw2)).ln hKz13
  refine wl_idx rfl rfl rfl elemI aggInt.size i rfl (by omega) pz13 hpz13 (by decide) ?_
  have lt19:=(l_someg10none.ext e10)
  obtain⟨us17,own18⟩:=lt19.own
  refine wl_setI (e:=⟨sz8,Az12,(msa.getD i 0),cz12⟩) (z:=zs.getD i 0) rfl rfl rfl hpz13 (by omega) lt19 (Or.inr ⟨_,rfl,Or.inr zo12⟩) (Nat.le_trans (hma i) (by decide)) fun v14 lz15 uo16=>?_
  have hw3:=uo16.ext hw2 (fun p hp=>by have:=blk7 p hp;omega)
  have hlblz15:g1≤v14.heap.size:=Nat.le_trans (Nat.le_trans l_someg10noneb e10.size) uo16.size
  refine wl_nil (eo_block_normal (eo_then (cw_region (mv 1 rfl (wl_ar rfl rfl rfl ((i+1:Nat):Int) (ai_add (a:=i) (b:=1) rfl rfl (by omega)) (by decide) (mv 1 rfl (wl_nil ?_)))))))
  have hl9:=lz15
  rw [upto5_succ hla.len hin] at hl9
  refine eo_round (⟨v14,i+1⟩:World×Nat) ⟨hw3,(by omega),hlblz15,hl9⟩ (show na-(i+1)<na-i by omega) rfl ⟨rfl,rfl,rfl,rfl,rfl,rfl,rfl,trivial⟩
 · 
  refine cw_region (mv 2 rfl (pu (v:= .int .i64 ((na:Nat):Int)) rfl (by kernel_rfl) (wl_cmp rfl rfl rfl false (cb_lt_f (a:=i) (b:=na) rfl rfl (by omega)) (by decide) (ne_ (cw_false rfl (cw_exit (eo_thenX (eo_loopX (eo_block_here (eo_then (sr (mv 2 rfl (wl_nil ?_)))))))))))))
  refine eo_then (cw_ret (eo_ret [.slice (some ⟨g1,0,none⟩) na na] rfl ⟨rfl,trivial⟩ ?_))
  have hl7:=(l_someg10none).mono (Nat.le_refl _) hb (Nat.le_trans hlb hglg1)
  rw [show i=na by omega,upto5_full hla.len] at hl7
  exact⟨_,rfl,⟨_,_,rfl,hl7⟩,hw1⟩
set_option maxHeartbeats 4000000 in
set_option maxRecDepth 20000 in
theorem g_top_copyMat {w:World}{b lb:Nat}(hb:b≤w.heap.size) (hlb:lb≤w.heap.size){w0:World}(hw0:Ext w0 w){R C:Int}{Aa:Option Addr}{na capa:Nat}{zs:List Int}(hxa:ZF w Aa na capa 1048576 zs) (hna:na≤1048576):
    Calls Tryz.prog 7 #[.agg #[.int .i64 R,.int .i64 C,.slice Aa na capa]] w (Gv w (MQ R C (LE (some w0) 1048576 b lb na zs))):=by
 obtain⟨msa,hla,hma⟩:=hxa
 refine sx_enter Tryz.func7 rfl (n:=11) rfl (bq rfl) (args:= [.agg #[.int .i64 R,.int .i64 C,.slice Aa na capa]]) (cw_keep [(0,.agg #[.int .i64 R,.int .i64 C,.slice Aa na capa])] ⟨rfl,trivial⟩ (sr (bx [.int .i64 R,.int .i64 C,.slice Aa na capa] (Ext.refl w) rfl rfl rfl fun g1 v2 hb4 ge5 e3 hw1=>(alq [I0,I0,S0] hw1 hb4.lt (fun _=>by kernel_rfl) rfl fun g6 v7 hb9 ge10 q11 e8 hw2=>(ne_ (cw_seq ?_))))))
 obtain⟨lb12,hlb12,hlelb12,hgl12,hq12_0,hq12_1⟩:∃lb,lb≤v7.heap.size∧v7.heap.size≤lb∧w.heap.size≤lb∧g1<lb∧g6<lb:=⟨v7.heap.size,Nat.le_refl _,Nat.le_refl _,hw2.size,(hb4.ext e8).lt,hb9.lt⟩
 refine cw_draw mix 8 [] [Is (.pointer (some ⟨g1,0,none⟩)),Is (.int .i64 R),Is (.pointer (some ⟨g1,1,none⟩)),Is (.int .i64 C),Is (.pointer (some ⟨g1,2,none⟩)),Is (.slice Aa na capa),LE (some w0) 1048576 w.heap.size lb12 na zs,MQ R C (LE (some w0) 1048576 w.heap.size lb12 na zs)] [[],[0],[],[2],[],[4],[5],[1,3,6]] [[],[0],[],[2],[],[4],[4,5],[0,1,2,3,4,5,6],[0,1,2,3,4,5,6,7]] rfl
  (obs_cons rfl rfl (hob rfl rfl ?_) (obs_cons rfl rfl (hob rfl rfl ?_) (obs_cons rfl rfl (hob rfl rfl ?_) (obs_cons rfl rfl (hob rfl rfl ?_) (obs_cons rfl rfl (hob rfl rfl ?_) (obs_cons rfl rfl (hob rfl rfl ?_) (obs_cons rfl rfl (hob rfl rfl ?_) (obs_cons rfl rfl (hob rfl rfl ?_) obs_nil)))))))) ?_
 · 
  exact fun _ _=>deps_nil (pf g1 0 rfl (by kernel_rfl) (pi_done rfl (Ext.refl _) rfl))
 · 
  exact fun _ e21=>dk rfl rfl (deps_nil (wl_load rfl rfl (load_cell cellInt (hb4.ext (e8.trans e21)) rfl) (by decide) (pi_done rfl (Ext.refl _) rfl)))
 · 
  exact fun _ _=>deps_nil (pf g1 1 rfl (by kernel_rfl) (pi_done rfl (Ext.refl _) rfl))
 · 
  exact fun _ e30=>dk rfl rfl (deps_nil (wl_load rfl rfl (load_cell cellInt (hb4.ext (e8.trans e30)) rfl) (by decide) (pi_done rfl (Ext.refl _) rfl)))
 · 
  exact fun _ _=>deps_nil (pf g1 2 rfl (by kernel_rfl) (pi_done rfl (Ext.refl _) rfl))
 · 
  exact fun _ e39=>dk rfl rfl (deps_nil (wl_load rfl rfl (load_cell cellInts (hb4.ext (e8.trans e39)) rfl) (by decide) (pi_done rfl (Ext.refl _) rfl)))
 · 
  intro v45 e46
  have hw3:=hw2.trans e46
  refine dk rfl rfl (deps_nil (cl (vs:= [.slice Aa na capa]) hw3 (g_top_copyRow (w0:=w0) hw3.size (Nat.le_trans hlb12 e46.size) (hw0.trans hw3) ((show ZF w _ _ _ _ _ from⟨msa,hla,hma⟩).ext hw3) (by omega)) rfl (by kernel_rfl) fun xr54 v52 r54 e53 hw4=>?_))
  obtain⟨LA55,lc55,rfl,lz55⟩:=r54
  have blk56:=lz55.block
  exact pi_done rfl e53 ⟨_,_,rfl,lz55⟩
 · 
  intro v57 e58
  refine dk rfl rfl (dk rfl rfl (deps_cons rfl rfl fun x69 y70 h71 e72 f73=>?_))
  obtain⟨LA74,lc74,rfl,lz74⟩:=h71
  have blk75:=lz74.block
  have lz74:=lz74.ext f73
  refine deps_nil (pu (v:= .agg #[.int .i64 R,.int .i64 C,.slice LA74 na lc74]) rfl (by kernel_rfl) ?_)
  exact pi_done rfl (Ext.refl _) ⟨_,rfl,⟨_,_,rfl,lz74⟩⟩
 · 
  intro v76 e77
  have hw3:=hw2.trans e77
  refine dk rfl rfl (dk rfl rfl (dk rfl rfl (dk rfl rfl (dk rfl rfl (dk rfl rfl (deps_cons rfl rfl fun x108 y109 h110 e111 f112=>?_))))))
  obtain⟨LA113,lc113,rfl,lz113⟩:=h110
  have blk114:=lz113.block
  have lz113:=lz113.ext f112
  refine deps_cons rfl rfl fun x115 y116 h117 e118 f119=>?_
  obtain⟨lv120,rfl,⟨LA121,lc121,rfl,lz121⟩⟩:=h117
  have blk122:=lz121.block
  have lz121:=lz121.ext f119
  refine deps_nil ?_
  have hb124:=(hb9.ext e77)
  refine so aggMat hb124 [.int .i64 R,.int .i64 C,.slice LA121 na lc121] hw3 ge10 rfl rfl rfl rfl fun v123 hb125 u126 hw4=>(wl_nil (eo_np (eo_then (cw_ret (eo_ret [.agg #[.int .i64 R,.int .i64 C,.slice LA121 na lc121]] rfl ⟨⟨_,rfl,load_agg aggMat hb125 [.int .i64 R,.int .i64 C,.slice LA121 na lc121] rfl (bq rfl) rfl⟩,trivial⟩ ?_)))))
  exact⟨_,rfl,⟨_,rfl,⟨_,_,rfl,((lz121.updT hb124 u126 (show∀p:Addr,LA121=some p→p.block≠g6 from fun p hp=>by have:=blk122 p hp;omega))).mono (Nat.le_refl _) hb (Nat.le_trans hlb hgl12)⟩⟩,hw4⟩
set_option maxHeartbeats 4000000 in
set_option maxRecDepth 20000 in
theorem g_top_word {w:World}{b:Nat}(hb:b≤w.heap.size){x:Nat}(hx:x≤18446744073709551615):
    Calls Tryz.prog 15 #[.int .u64 ((x:Nat):Int)] w (Gv w (ZR b (((x:Nat):Int)))):=by
 refine sx_enter Tryz.func15 rfl (n:=9) rfl (bq rfl) (args:= [.int .u64 ((x:Nat):Int)]) (cw_keep [(0,.int .u64 ((x:Nat):Int))] ⟨rfl,trivial⟩ (sr (al [F0,S0] (Ext.refl w) (fun _=>by kernel_rfl) rfl fun g1 v2 hb4 ge5 e3 hw1=>(ne_ (cw_seq (cw_seq ?_))))))
 by_cases hx0:x=0
 · 
  refine cw_region (mv 1 rfl (wl_cmp rfl rfl rfl true (cb_eq_t (a:=x) (b:=0) rfl rfl (by omega)) (by decide) (ne_ (cw_true rfl (sr (pu (v:= .agg #[F0,S0]) rfl (by kernel_rfl) (so aggInt hb4 [F0,S0] hw1 ge5 rfl rfl rfl rfl fun v6 hb8 u9 hw2=>(ne_ (cw_ret (eo_thenR (eo_ret [.agg #[F0,S0]] rfl ⟨⟨_,rfl,load_agg aggInt hb8 [F0,S0] rfl (bq rfl) rfl⟩,trivial⟩ ?_)))))))))))
  exact⟨_,rfl,⟨_,_,_,_,rfl,(((Zr.zero (w:=v6) (base:=w.heap.size))).cast (by rw [hx0];rfl)).mono hb⟩,hw2⟩
 · 
  refine cw_region (mv 1 rfl (wl_cmp rfl rfl rfl false (cb_eq_f (a:=x) (b:=0) rfl rfl (by omega)) (by decide) (ne_ (cw_false rfl (cw_skip (eo_then (sr (mv 1 rfl (wl_bslice rfl rfl (by decide) (k:=1) (e:=45) [.int .u64 ((x:Nat):Int)] (fun _=>by kernel_rfl) fun g11 v12 nb13=>?_)))))))))
  have o14:=O1.mk_ (x:=x) (b:=w.heap.size) nb13 hw1.size
  have e15:=nb13.ext
  have hw2:=hw1.trans e15
  have o17:=own1_wd o14 hx hx0
  have j16:=len1 hx hx0
  refine pu (v:= .agg #[F0,.slice (some ⟨g11,0,none⟩) 1 1]) rfl (by kernel_rfl) ?_
  have hb19:=(hb4.ext e15)
  refine so aggInt hb19 [F0,.slice (some ⟨g11,0,none⟩) 1 1] hw2 ge5 rfl rfl rfl rfl fun v18 hb20 u21 hw3=>(ne_ (cw_ret (eo_ret [.agg #[F0,.slice (some ⟨g11,0,none⟩) 1 1]] rfl ⟨⟨_,rfl,load_agg aggInt hb20 [F0,.slice (some ⟨g11,0,none⟩) 1 1] rfl (bq rfl) rfl⟩,trivial⟩ ?_)))
  exact⟨_,rfl,⟨_,_,_,_,rfl,((Zr_nat j16 o17).updT hb19 u21).mono hb⟩,hw3⟩
set_option maxHeartbeats 4000000 in
set_option maxRecDepth 20000 in
theorem g_top_two {w:World}{b lb:Nat}(hb:b≤w.heap.size) (hlb:lb≤w.heap.size):
    Calls Tryz.prog 23 #[] w (Gv w (MQ 2 2 (LE none 1 b lb 4 ([2,4,6,8])))):=by
 refine sx_enter Tryz.func23 rfl (n:=7) rfl (bq rfl) (args:= []) (cw_keep [] trivial (sr (al [I0,I0,S0] (Ext.refl w) (fun _=>by kernel_rfl) rfl fun g1 v2 hb4 ge5 e3 hw1=>(ne_ (sr (cl (vs:= [.int .u64 2]) hw1 ((g_top_word (x:=2) hw1.size (by decide))) rfl (by kernel_rfl) fun xr8 v6 r8 e7 hw2=>?_))))))
 obtain⟨s9,A9,n9,c9,rfl,z9⟩:=r8
 refine cl (vs:= [.int .u64 4]) hw2 ((g_top_word (x:=4) hw2.size (by decide))) rfl (by kernel_rfl) fun xr12 v10 r12 e11 hw3=>?_
 obtain⟨s13,A13,n13,c13,rfl,z13⟩:=r12
 refine cl (vs:= [.int .u64 6]) hw3 ((g_top_word (x:=6) hw3.size (by decide))) rfl (by kernel_rfl) fun xr16 v14 r16 e15 hw4=>?_
 obtain⟨s17,A17,n17,c17,rfl,z17⟩:=r16
 refine cl (vs:= [.int .u64 8]) hw4 ((g_top_word (x:=8) hw4.size (by decide))) rfl (by kernel_rfl) fun xr20 v18 r20 e19 hw5=>?_
 obtain⟨s21,A21,n21,c21,rfl,z21⟩:=r20
 refine wl_bslice rfl rfl (by decide) (k:=4) (e:=41) [.bool s9,.slice A9 n9 c9,.bool s13,.slice A13 n13 c13,.bool s17,.slice A17 n17 c17,.bool s21,.slice A21 n21 c21] (fun _=>by kernel_rfl) fun g22 v23 nb=>?_
 have hb25:=nb.bk
 have ge26:w.heap.size≤g22:=by rw [←nb.at_];exact hw5.size
 have q27:g1<g22:=by rw [←nb.at_];exact (hb4.ext (e7.trans (e11.trans (e15.trans e19)))).lt
 have e24:=nb.ext
 clear nb
 have hw6:=hw5.trans e24
 refine pu (v:= .agg #[.int .i64 2,.int .i64 2,.slice (some ⟨g22,0,none⟩) 4 4]) rfl (by kernel_rfl) ?_
 have hb29:=(hb4.ext (e7.trans (e11.trans (e15.trans (e19.trans e24)))))
 refine so aggMat hb29 [.int .i64 2,.int .i64 2,.slice (some ⟨g22,0,none⟩) 4 4] hw6 ge5 rfl rfl rfl rfl fun v28 hb30 u31 hw7=>(ne_ (cw_ret (eo_ret [.agg #[.int .i64 2,.int .i64 2,.slice (some ⟨g22,0,none⟩) 4 4]] rfl ⟨⟨_,rfl,load_agg aggMat hb30 [.int .i64 2,.int .i64 2,.slice (some ⟨g22,0,none⟩) 4 4] rfl (bq rfl) rfl⟩,trivial⟩ ?_)))
 exact⟨_,rfl,⟨_,rfl,⟨_,_,rfl,lz4 (Nat.le_trans hlb ge26) (hb25.updN u31 (by omega)) (((z9.ext (e11.trans (e15.trans (e19.trans e24)))).updT hb29 u31).mono hb) (((z13.ext (e15.trans (e19.trans e24))).updT hb29 u31).mono hb) (((z17.ext (e19.trans e24)).updT hb29 u31).mono hb) (((z21.ext e24).updT hb29 u31).mono hb) (z9.le (Nat.le_trans (show ln ((2:Nat):Int)≤1 from ln_w64 (by decide)) (by decide))) (z13.le (Nat.le_trans (show ln ((4:Nat):Int)≤1 from ln_w64 (by decide)) (by decide))) (z17.le (Nat.le_trans (show ln ((6:Nat):Int)≤1 from ln_w64 (by decide)) (by decide))) (z21.le (Nat.le_trans (show ln ((8:Nat):Int)≤1 from ln_w64 (by decide)) (by decide)))⟩⟩,hw7⟩
set_option maxHeartbeats 4000000 in
set_option maxRecDepth 20000 in
theorem g_top_least {w:World}{x:Int}{b_a:Nat}{sa:Bool}{Aa:Option Addr}{na ca:Nat}(ha:Zr w b_a sa Aa na ca x):
    Calls Tryz.prog 39 #[.agg #[.bool sa,.slice Aa na ca]] w (Gv w (Is (.bool true))):=by
 refine sx_enter Tryz.func39 rfl (n:=19) rfl (bq rfl) (args:= [.agg #[.bool sa,.slice Aa na ca]]) (cw_keep [(0,.agg #[.bool sa,.slice Aa na ca])] ⟨rfl,trivial⟩ (sr (bx [.bool sa,.slice Aa na ca] (Ext.refl w) rfl rfl rfl fun g1 v2 hb4 ge5 e3 hw1=>(mv 1 rfl (ne_ (cw_seq ?_))))))
 have hn:=ha.len
 have hle:=ha.rd.rv.le
 have hmx:=ha.rd.rv.max
 rw [len_maxLen] at hmx
 by_cases hx0:x=0
 · 
  have hn0:na=0:=by rw [hn,hx0];rfl
  obtain rfl:sa=false:=by rw [ha.sgn,hx0];rfl
  refine cw_region (pf g1 1 rfl (by kernel_rfl) (wl_load rfl rfl (load_cell cellWords hb4 rfl) (by decide) (pu (v:= .int .i64 ((na:Nat):Int)) rfl (by kernel_rfl) (mv 1 rfl (ne_ (cw_seq (sr (mv 1 rfl (wl_cmp rfl rfl rfl true (cb_eq_t (a:=na) (b:=0) rfl rfl (by omega)) (by decide) (ne_ (cw_true rfl (sr (pf g1 0 rfl (by kernel_rfl) ?_)))))))))))))
  refine wl_load rfl rfl (load_cell cellBool hb4 rfl) (by decide) (pu (v:= .bool true) rfl (by kernel_rfl) (mv 1 rfl (ne_ (cw_ret (eo_thenR (eo_ret [.bool true] rfl ⟨rfl,trivial⟩ ?_))))))
  exact⟨_,rfl,rfl,hw1⟩
 · 
  have hn0:na≠0:=fun e=>hx0 (ln_eq_zero (by rw [←hn,e]))
  have htop:=wd_topI hx0
  rw [←hn] at htop
  refine cw_region (pf g1 1 rfl (by kernel_rfl) (wl_load rfl rfl (load_cell cellWords hb4 rfl) (by decide) (pu (v:= .int .i64 ((na:Nat):Int)) rfl (by kernel_rfl) (mv 1 rfl (ne_ (cw_seq (sr (mv 1 rfl (wl_cmp rfl rfl rfl false (cb_eq_f (a:=na) (b:=0) rfl rfl (by omega)) (by decide) (ne_ (cw_false rfl (cw_skip (eo_then ?_)))))))))))))
  refine sr (pf g1 1 rfl (by kernel_rfl) (wl_load rfl rfl (load_cell cellWords hb4 rfl) (by decide) (mv 1 rfl (wl_ar rfl rfl rfl ((na-1:Nat):Int) (ai_sub (a:=na) (b:=1) rfl rfl (by omega) (by omega)) (by decide) ?_))))
  obtain⟨p6,hp6,hc6,hv6⟩:=((ha.ext e3)).rd.at (i:=na-1) (by omega)
  refine wl_idx rfl rfl rfl un_u64 sz_u64 (na-1) rfl (by omega) p6 hp6 (by decide) (wl_load rfl rfl (load_cell1 ag_u64 hc6) (by decide) (wl_cmp rfl rfl rfl true (cb_ne_t (a:=(wd (Int.natAbs x)).getD (na-1) 0) (b:=0) rfl rfl (by omega)) (by decide) (mv 1 rfl (ne_ (cw_ret (eo_ret [.bool true] rfl ⟨rfl,trivial⟩ ?_))))))
  exact⟨_,rfl,rfl,hw1⟩
set_option maxHeartbeats 4000000 in
set_option maxRecDepth 20000 in
theorem g_top_sameInt {w:World}{x:Int}{b_a:Nat}{sa:Bool}{Aa:Option Addr}{na ca:Nat}(ha:Zr w b_a sa Aa na ca x){b_y:Nat}{sy:Bool}{Ay:Option Addr}{ny cy:Nat}(hy:Zr w b_y sy Ay ny cy x):
    Calls Tryz.prog 18 #[.agg #[.bool sa,.slice Aa na ca],.agg #[.bool sy,.slice Ay ny cy]] w (Gv w (Is (.bool true))):=by
 obtain rfl:sa=sy:=by rw [hy.sgn,ha.sgn]
 have hna:=ha.len
 have hny:=hy.len
 have hle:=ha.rd.rv.le
 have hma:=ha.rd.rv.max
 have hmy:=hy.rd.rv.max
 rw [len_maxLen] at hma hmy
 refine sx_enter Tryz.func18 rfl (n:=48) rfl (bq rfl) (args:= [.agg #[.bool sa,.slice Aa na ca],.agg #[.bool sa,.slice Ay ny cy]]) (cw_keep [(0,.agg #[.bool sa,.slice Aa na ca]),(1,.agg #[.bool sa,.slice Ay ny cy])] ⟨rfl,rfl,trivial⟩ (sr (bx [.bool sa,.slice Aa na ca] (Ext.refl w) rfl rfl rfl fun g1 v2 hb4 ge5 e3 hw1=>(bxq [.bool sa,.slice Ay ny cy] hw1 hb4.lt rfl rfl rfl fun g6 v7 hb9 ge10 q11 e8 hw2=>(mv 1 rfl (ne_ (cw_seq (sr (pf g1 0 rfl (by kernel_rfl) (wl_load rfl rfl (load_cell cellBool (hb4.ext e8) rfl) (by decide) (pf g6 0 rfl (by kernel_rfl) (wl_load rfl rfl (load_cell cellBool hb9 rfl) (by decide) (wl_pureE rfl rfl (v:= .bool (!(sa==sa))) (v':= .bool false) (by decide) (by kernel_rfl) (by simp) ?_)))))))))))))
 refine mv 1 rfl (pf g1 1 rfl (by kernel_rfl) (wl_load rfl rfl (load_cell cellWords (hb4.ext e8) rfl) (by decide) (pu (v:= .int .i64 ((na:Nat):Int)) rfl (by kernel_rfl) (pf g6 1 rfl (by kernel_rfl) (wl_load rfl rfl (load_cell cellWords hb9 rfl) (by decide) (pu (v:= .int .i64 ((ny:Nat):Int)) rfl (by kernel_rfl) (wl_cmp rfl rfl rfl false (cb_ne_f (a:=na) (b:=ny) rfl rfl (by omega)) (by decide) (pu (v:= .bool false) rfl (by kernel_rfl) (mv 1 rfl (lo aggInt (hb4.ext e8) [.bool sa,.slice Aa na ca] rfl rfl rfl (cl (vs:= [.agg #[.bool sa,.slice Aa na ca]]) hw2 (g_top_least (ha.ext (e3.trans e8))) rfl (by kernel_rfl) fun xr14 v12 r14 e13 hw3=>?_)))))))))))
 obtain rfl:=r14
 refine pu (v:= .bool false) rfl (by kernel_rfl) (pu (v:= .bool false) rfl (by kernel_rfl) (mv 1 rfl (lo aggInt (hb9.ext e13) [.bool sa,.slice Ay ny cy] rfl rfl rfl (cl (vs:= [.agg #[.bool sa,.slice Ay ny cy]]) hw3 (g_top_least (hy.ext (e3.trans (e8.trans e13)))) rfl (by kernel_rfl) fun xr17 v15 r17 e16 hw4=>?_))))
 obtain rfl:=r17
 refine pu (v:= .bool false) rfl (by kernel_rfl) (pu (v:= .bool false) rfl (by kernel_rfl) (ne_ (cw_false rfl (cw_skip (eo_then (cw_seq (sr (mv 1 rfl (ne_ (cw_block ?_))))))))))
 refine cw_loop (T:=World×Nat) (fun⟨wr,i⟩=> [(0,.agg #[.bool sa,.slice Aa na ca]),(1,.agg #[.bool sa,.slice Ay ny cy]),(2,.pointer (some ⟨g1,0,none⟩)),(3,.pointer (some ⟨g6,0,none⟩)),(4,.bool false),(5,.int .i64 ((i:Nat):Int)),(6,.pointer (some ⟨g1,0,none⟩)),(7,.bool sa),(8,.pointer (some ⟨g6,0,none⟩)),(9,.bool sa),(10,.bool false),(11,.bool false),(12,.pointer (some ⟨g1,1,none⟩)),(13,.slice Aa na ca),(14,.int .i64 ((na:Nat):Int)),(15,.pointer (some ⟨g6,1,none⟩)),(16,.slice Ay ny cy),(17,.int .i64 ((ny:Nat):Int)),(18,.bool false),(19,.bool false),(20,.bool false),(21,.agg #[.bool sa,.slice Aa na ca]),(22,.bool true),(23,.bool false),(24,.bool false),(25,.bool false),(26,.agg #[.bool sa,.slice Ay ny cy]),(27,.bool true),(28,.bool false),(29,.bool false)]) (fun⟨wr,i⟩=>wr) (fun⟨wr,i⟩=>(Ext w wr)∧(i≤na)∧(Bk wr g1 41 [.bool sa,.slice Aa na ca])∧(Zr wr b_a sa Aa na ca (x))∧(Bk wr g6 41 [.bool sa,.slice Ay ny cy])∧(Zr wr b_y sa Ay ny cy (x))) (fun⟨wr,i⟩=>na-i)
  (⟨v15,0⟩:World×Nat) ⟨hw4,(by omega),(hb4.ext (e8.trans (e13.trans e16))),(ha.ext (e3.trans (e8.trans (e13.trans e16)))),(hb9.ext (e13.trans e16)),(hy.ext (e3.trans (e8.trans (e13.trans e16))))⟩ rfl ⟨rfl,rfl,rfl,rfl,rfl,rfl,rfl,rfl,rfl,rfl,rfl,rfl,rfl,rfl,rfl,rfl,rfl,rfl,rfl,rfl,rfl,rfl,rfl,rfl,rfl,rfl,rfl,rfl,rfl,rfl,trivial⟩ ?_
 rintro⟨wr,i⟩ ⟨hw1,hi_i,b_g1,z_g1,b_g6,z_g6⟩
 refine cw_re [(0,.agg #[.bool sa,.slice Aa na ca]),(1,.agg #[.bool sa,.slice Ay ny cy]),(2,.pointer (some ⟨g1,0,none⟩)),(3,.pointer (some ⟨g6,0,none⟩)),(4,.bool false),(5,.int .i64 ((i:Nat):Int)),(6,.pointer (some ⟨g1,0,none⟩)),(7,.bool sa),(8,.pointer (some ⟨g6,0,none⟩)),(9,.bool sa),(10,.bool false),(11,.bool false),(12,.pointer (some ⟨g1,1,none⟩)),(13,.slice Aa na ca),(14,.int .i64 ((na:Nat):Int)),(15,.pointer (some ⟨g6,1,none⟩)),(16,.slice Ay ny cy),(17,.int .i64 ((ny:Nat):Int)),(18,.bool false),(19,.bool false),(20,.bool false),(21,.agg #[.bool sa,.slice Aa na ca]),(22,.bool true),(23,.bool false),(24,.bool false),(25,.bool false),(26,.agg #[.bool sa,.slice Ay ny cy]),(27,.bool true),(28,.bool false),(29,.bool false)] wr rfl ⟨rfl,rfl,rfl,rfl,rfl,rfl,rfl,rfl,rfl,rfl,rfl,rfl,rfl,rfl,rfl,rfl,rfl,rfl,rfl,rfl,rfl,rfl,rfl,rfl,rfl,rfl,rfl,rfl,rfl,rfl,trivial⟩ (cw_seq (cw_seq ?_))
 by_cases hin:i<na
 · 
  refine cw_region (mv 1 rfl (pf g1 1 rfl (by kernel_rfl) (wl_load rfl rfl (load_cell cellWords b_g1 rfl) (by decide) (pu (v:= .int .i64 ((na:Nat):Int)) rfl (by kernel_rfl) (wl_cmp rfl rfl rfl true (cb_lt_t (a:=i) (b:=na) rfl rfl (by omega)) (by decide) (ne_ (cw_true rfl (cw_skip (eo_then (cw_seq (cw_block (cw_seq (cw_keep [(0,.agg #[.bool sa,.slice Aa na ca]),(1,.agg #[.bool sa,.slice Ay ny cy]),(2,.pointer (some ⟨g1,0,none⟩)),(3,.pointer (some ⟨g6,0,none⟩)),(4,.bool false),(5,.int .i64 ((i:Nat):Int)),(6,.pointer (some ⟨g1,0,none⟩)),(7,.bool sa),(8,.pointer (some ⟨g6,0,none⟩)),(9,.bool sa),(10,.bool false),(11,.bool false),(12,.pointer (some ⟨g1,1,none⟩)),(13,.slice Aa na ca),(14,.int .i64 ((na:Nat):Int)),(15,.pointer (some ⟨g6,1,none⟩)),(16,.slice Ay ny cy),(17,.int .i64 ((ny:Nat):Int)),(18,.bool false),(19,.bool false),(20,.bool false),(21,.agg #[.bool sa,.slice Aa na ca]),(22,.bool true),(23,.bool false),(24,.bool false),(25,.bool false),(26,.agg #[.bool sa,.slice Ay ny cy]),(27,.bool true),(28,.bool false),(29,.bool false),(30,.int .i64 ((i:Nat):Int)),(31,.pointer (some ⟨g1,1,none⟩)),(32,.slice Aa na ca),(33,.int .i64 ((na:Nat):Int)),(34,.bool true)] ⟨rfl,rfl,rfl,rfl,rfl,rfl,rfl,rfl,rfl,rfl,rfl,rfl,rfl,rfl,rfl,rfl,rfl,rfl,rfl,rfl,rfl,rfl,rfl,rfl,rfl,rfl,rfl,rfl,rfl,rfl,rfl,rfl,rfl,rfl,rfl,trivial⟩ ?_)))))))))))))
  obtain⟨v18,hv,e19⟩:∃v,v=wr.drew∧Ext wr v:=⟨_,rfl,(Ext.refl _).drew⟩
  have hw2:=hw1.trans e19
  obtain⟨p20,hp20,hc20,hv20⟩:=((z_g1.ext e19)).rd.at (i:=i) (by omega)
  obtain⟨p21,hp21,hc21,hv21⟩:=((z_g6.ext e19)).rd.at (i:=i) (by omega)
  refine cw_det mix (w:=v18) [.pointer (some ⟨g1,1,none⟩),.slice Aa na ca,.int .i64 ((i:Nat):Int),.pointer (some p20),.int .u64 (((wd (Int.natAbs x)).getD i 0:Nat):Int),.pointer (some ⟨g6,1,none⟩),.slice Ay ny cy,.int .i64 ((i:Nat):Int),.pointer (some p21),.int .u64 (((wd (Int.natAbs x)).getD i 0:Nat):Int),F0] [v18] [] [[],[0],[],[1,2],[3],[],[5],[],[6,7],[8],[4,9]] [[],[0],[],[0,1,2],[0,1,2,3],[],[5],[],[5,6,7],[5,6,7,8],[0,1,2,3,4,5,6,7,8,9]] [(0,0),(1,0),(2,0),(3,0),(4,0),(5,0),(6,0),(7,0),(8,0),(9,0),(10,0)] rfl hv ?_ ?_
  · 
   refine dobs_val _ rfl rfl rfl rfl rfl (rd_pure rfl (by kernel_rfl)) (dobs_val _ rfl rfl rfl rfl rfl (rd_load rfl (load_cell cellWords (b_g1.ext e19) rfl)) (dobs_val _ rfl rfl rfl rfl rfl (rd_move rfl) (dobs_val _ rfl rfl rfl rfl rfl (rd_idx rfl rfl un_u64 sz_u64 i rfl (by omega) p20 hp20) (dobs_val _ rfl rfl rfl rfl rfl (rd_load rfl (load_cell1 ag_u64 hc20)) (dobs_val _ rfl rfl rfl rfl rfl (rd_pure rfl (by kernel_rfl)) (dobs_val _ rfl rfl rfl rfl rfl (rd_load rfl (load_cell cellWords (b_g6.ext e19) rfl)) (dobs_val _ rfl rfl rfl rfl rfl (rd_move rfl) (dobs_val _ rfl rfl rfl rfl rfl (rd_idx rfl rfl un_u64 sz_u64 i rfl (by omega) p21 hp21) (dobs_val _ rfl rfl rfl rfl rfl (rd_load rfl (load_cell1 ag_u64 hc21)) (dobs_val _ rfl rfl rfl rfl rfl (rd_cmp rfl rfl false (cb_ne_f (a:=(wd (Int.natAbs x)).getD i 0) (b:=(wd (Int.natAbs x)).getD i 0) rfl rfl (by omega))) ?_))))))))))
   exact dobs_nil
  clear hv
  refine eo_keep [(0,.agg #[.bool sa,.slice Aa na ca]),(1,.agg #[.bool sa,.slice Ay ny cy]),(2,.pointer (some ⟨g1,0,none⟩)),(3,.pointer (some ⟨g6,0,none⟩)),(4,.bool false),(5,.int .i64 ((i:Nat):Int)),(6,.pointer (some ⟨g1,0,none⟩)),(7,.bool sa),(8,.pointer (some ⟨g6,0,none⟩)),(9,.bool sa),(10,.bool false),(11,.bool false),(12,.pointer (some ⟨g1,1,none⟩)),(13,.slice Aa na ca),(14,.int .i64 ((na:Nat):Int)),(15,.pointer (some ⟨g6,1,none⟩)),(16,.slice Ay ny cy),(17,.int .i64 ((ny:Nat):Int)),(18,.bool false),(19,.bool false),(20,.bool false),(21,.agg #[.bool sa,.slice Aa na ca]),(22,.bool true),(23,.bool false),(24,.bool false),(25,.bool false),(26,.agg #[.bool sa,.slice Ay ny cy]),(27,.bool true),(28,.bool false),(29,.bool false),(30,.int .i64 ((i:Nat):Int)),(31,.pointer (some ⟨g1,1,none⟩)),(32,.slice Aa na ca),(33,.int .i64 ((na:Nat):Int)),(34,.bool true),(37,.pointer (some ⟨g1,1,none⟩)),(38,.slice Aa na ca),(39,.int .i64 ((i:Nat):Int)),(40,.pointer (some p20)),(41,.int .u64 (((wd (Int.natAbs x)).getD i 0:Nat):Int)),(42,.pointer (some ⟨g6,1,none⟩)),(43,.slice Ay ny cy),(44,.int .i64 ((i:Nat):Int)),(45,.pointer (some p21)),(46,.int .u64 (((wd (Int.natAbs x)).getD i 0:Nat):Int)),(47,.bool false)] ⟨rfl,rfl,rfl,rfl,rfl,rfl,rfl,rfl,rfl,rfl,rfl,rfl,rfl,rfl,rfl,rfl,rfl,rfl,rfl,rfl,rfl,rfl,rfl,rfl,rfl,rfl,rfl,rfl,rfl,rfl,rfl,rfl,rfl,rfl,rfl,rfl,rfl,rfl,rfl,rfl,rfl,rfl,rfl,rfl,rfl,rfl,trivial⟩ (eo_then (cw_false rfl (cw_skip (eo_block_normal (eo_then (cw_region (mv 1 rfl (wl_ar rfl rfl rfl ((i+1:Nat):Int) (ai_add (a:=i) (b:=1) rfl rfl (by omega)) (by decide) (mv 1 rfl (wl_nil (eo_round (⟨v18,i+1⟩:World×Nat) ⟨hw2,(by omega),(b_g1.ext e19),(z_g1.ext e19),(b_g6.ext e19),(z_g6.ext e19)⟩ (show na-(i+1)<na-i by omega) rfl ⟨rfl,rfl,rfl,rfl,rfl,rfl,rfl,rfl,rfl,rfl,rfl,rfl,rfl,rfl,rfl,rfl,rfl,rfl,rfl,rfl,rfl,rfl,rfl,rfl,rfl,rfl,rfl,rfl,rfl,rfl,trivial⟩)))))))))))
 · 
  refine cw_region (mv 1 rfl (pf g1 1 rfl (by kernel_rfl) (wl_load rfl rfl (load_cell cellWords b_g1 rfl) (by decide) (pu (v:= .int .i64 ((na:Nat):Int)) rfl (by kernel_rfl) (wl_cmp rfl rfl rfl false (cb_lt_f (a:=i) (b:=na) rfl rfl (by omega)) (by decide) (ne_ (cw_false rfl (cw_exit (eo_thenX (eo_loopX (eo_block_here (eo_then (cw_seq ?_)))))))))))))
  refine cw_region (mv 1 rfl (ne_ (cw_ret (eo_ret [.bool true] rfl ⟨rfl,trivial⟩ ?_))))
  exact⟨_,rfl,rfl,hw1⟩
set_option maxHeartbeats 4000000 in
set_option maxRecDepth 20000 in
theorem g_top_sound_t {w:World}{R C:Int}{na capa:Nat}{Aa:Option Addr}(hs:Snd R C na):
    Calls Tryz.prog 8 #[.agg #[.int .i64 R,.int .i64 C,.slice Aa na capa]] w (Gv w (Is (.bool true))):=by
 refine sx_enter Tryz.func8 rfl (n:=32) rfl (bq rfl) (args:= [.agg #[.int .i64 R,.int .i64 C,.slice Aa na capa]]) (cw_keep [(0,.agg #[.int .i64 R,.int .i64 C,.slice Aa na capa])] ⟨rfl,trivial⟩ (sr (bx [.int .i64 R,.int .i64 C,.slice Aa na capa] (Ext.refl w) rfl rfl rfl fun g1 v2 hb4 ge5 e3 hw1=>(mv 1 rfl (ne_ (cw_seq ?_))))))
 have h1:=hs.1
 have h3:=hs.2.1
 refine cw_region (pf g1 0 rfl (by kernel_rfl) (wl_load rfl rfl (load_cell cellInt hb4 rfl) (by decide) (wl_cmp rfl rfl rfl true (ci_ge_t hs.1.1) (by decide) (mv 1 rfl (pf g1 0 rfl (by kernel_rfl) (wl_load rfl rfl (load_cell cellInt hb4 rfl) (by decide) (wl_cmp rfl rfl rfl true (ci_le_t hs.1.2) (by decide) (pu (v:= .bool true) rfl (by kernel_rfl) (mv 1 rfl (pf g1 1 rfl (by kernel_rfl) (wl_load rfl rfl (load_cell cellInt hb4 rfl) (by decide) (wl_cmp rfl rfl rfl true (ci_ge_t hs.2.1.1) (by decide) (pu (v:= .bool true) rfl (by kernel_rfl) ?_)))))))))))))
 refine mv 1 rfl (pf g1 1 rfl (by kernel_rfl) (wl_load rfl rfl (load_cell cellInt hb4 rfl) (by decide) (wl_cmp rfl rfl rfl true (ci_le_t hs.2.1.2) (by decide) (pu (v:= .bool true) rfl (by kernel_rfl) (mv 1 rfl (pf g1 2 rfl (by kernel_rfl) (wl_load rfl rfl (load_cell cellInts hb4 rfl) (by decide) (pu (v:= .int .i64 ((na:Nat):Int)) rfl (by kernel_rfl) (pf g1 0 rfl (by kernel_rfl) (wl_load rfl rfl (load_cell cellInt hb4 rfl) (by decide) (pf g1 1 rfl (by kernel_rfl) (wl_load rfl rfl (load_cell cellInt hb4 rfl) (by decide) (wl_ar rfl rfl rfl (R*C) (ai_mulI hs.1 hs.2.1) (by decide) ?_)))))))))))))
 refine wl_cmp rfl rfl rfl true (ci_eq_t hs.2.2) (by decide) (pu (v:= .bool true) rfl (by kernel_rfl) (mv 1 rfl (ne_ (cw_ret (eo_ret [.bool true] rfl ⟨rfl,trivial⟩ ?_)))))
 exact⟨_,rfl,rfl,hw1⟩
set_option maxHeartbeats 4000000 in
set_option maxRecDepth 20000 in
theorem g_top_sound_f {w:World}{R C:Int}{na capa:Nat}{Aa:Option Addr}(hs:¬Snd R C na):
    Calls Tryz.prog 8 #[.agg #[.int .i64 R,.int .i64 C,.slice Aa na capa]] w (Gv w (Is (.bool false))):=by
 refine sx_enter Tryz.func8 rfl (n:=32) rfl (bq rfl) (args:= [.agg #[.int .i64 R,.int .i64 C,.slice Aa na capa]]) (cw_keep [(0,.agg #[.int .i64 R,.int .i64 C,.slice Aa na capa])] ⟨rfl,trivial⟩ (sr (bx [.int .i64 R,.int .i64 C,.slice Aa na capa] (Ext.refl w) rfl rfl rfl fun g1 v2 hb4 ge5 e3 hw1=>(mv 1 rfl (ne_ (cw_seq ?_))))))
 by_cases h0:R≥0
 · 
  by_cases h1:R≤64
  · 
   by_cases h2:C≥0
   · 
    by_cases h3:C≤64
    · 
     have hne:((na:Nat):Int)≠R*C:=fun e=>hs ⟨⟨h0,h1⟩,⟨h2,h3⟩,e⟩
     refine cw_region (pf g1 0 rfl (by kernel_rfl) (wl_load rfl rfl (load_cell cellInt hb4 rfl) (by decide) (wl_cmp rfl rfl rfl true (ci_ge_t h0) (by decide) (mv 1 rfl (pf g1 0 rfl (by kernel_rfl) (wl_load rfl rfl (load_cell cellInt hb4 rfl) (by decide) (wl_cmp rfl rfl rfl true (ci_le_t h1) (by decide) (pu (v:= .bool true) rfl (by kernel_rfl) (mv 1 rfl (pf g1 1 rfl (by kernel_rfl) (wl_load rfl rfl (load_cell cellInt hb4 rfl) (by decide) (wl_cmp rfl rfl rfl true (ci_ge_t h2) (by decide) (pu (v:= .bool true) rfl (by kernel_rfl) ?_)))))))))))))
     refine mv 1 rfl (pf g1 1 rfl (by kernel_rfl) (wl_load rfl rfl (load_cell cellInt hb4 rfl) (by decide) (wl_cmp rfl rfl rfl true (ci_le_t h3) (by decide) (pu (v:= .bool true) rfl (by kernel_rfl) (mv 1 rfl (pf g1 2 rfl (by kernel_rfl) (wl_load rfl rfl (load_cell cellInts hb4 rfl) (by decide) (pu (v:= .int .i64 ((na:Nat):Int)) rfl (by kernel_rfl) (pf g1 0 rfl (by kernel_rfl) (wl_load rfl rfl (load_cell cellInt hb4 rfl) (by decide) (pf g1 1 rfl (by kernel_rfl) (wl_load rfl rfl (load_cell cellInt hb4 rfl) (by decide) (wl_ar rfl rfl rfl (R*C) (ai_mulI ⟨h0,h1⟩ ⟨h2,h3⟩) (by decide) ?_)))))))))))))
     refine wl_cmp rfl rfl rfl false (ci_eq_f hne) (by decide) (pu (v:= .bool false) rfl (by kernel_rfl) (mv 1 rfl (ne_ (cw_ret (eo_ret [F0] rfl ⟨rfl,trivial⟩ ?_)))))
     exact⟨_,rfl,rfl,hw1⟩
    · 
     refine cw_region (pf g1 0 rfl (by kernel_rfl) (wl_load rfl rfl (load_cell cellInt hb4 rfl) (by decide) (wl_cmp rfl rfl rfl true (ci_ge_t h0) (by decide) (mv 1 rfl (pf g1 0 rfl (by kernel_rfl) (wl_load rfl rfl (load_cell cellInt hb4 rfl) (by decide) (wl_cmp rfl rfl rfl true (ci_le_t h1) (by decide) (pu (v:= .bool true) rfl (by kernel_rfl) (mv 1 rfl (pf g1 1 rfl (by kernel_rfl) (wl_load rfl rfl (load_cell cellInt hb4 rfl) (by decide) (wl_cmp rfl rfl rfl true (ci_ge_t h2) (by decide) (pu (v:= .bool true) rfl (by kernel_rfl) ?_)))))))))))))
     refine mv 1 rfl (pf g1 1 rfl (by kernel_rfl) (wl_load rfl rfl (load_cell cellInt hb4 rfl) (by decide) (wl_cmp rfl rfl rfl false (ci_le_f h3) (by decide) (pu (v:= .bool false) rfl (by kernel_rfl) (mv 10 rfl (pu (v:= .bool false) rfl (by kernel_rfl) (mv 1 rfl (ne_ (cw_ret (eo_ret [F0] rfl ⟨rfl,trivial⟩ ?_))))))))))
     exact⟨_,rfl,rfl,hw1⟩
   · 
    refine cw_region (pf g1 0 rfl (by kernel_rfl) (wl_load rfl rfl (load_cell cellInt hb4 rfl) (by decide) (wl_cmp rfl rfl rfl true (ci_ge_t h0) (by decide) (mv 1 rfl (pf g1 0 rfl (by kernel_rfl) (wl_load rfl rfl (load_cell cellInt hb4 rfl) (by decide) (wl_cmp rfl rfl rfl true (ci_le_t h1) (by decide) (pu (v:= .bool true) rfl (by kernel_rfl) (mv 1 rfl (pf g1 1 rfl (by kernel_rfl) (wl_load rfl rfl (load_cell cellInt hb4 rfl) (by decide) (wl_cmp rfl rfl rfl false (ci_ge_f h2) (by decide) (pu (v:= .bool false) rfl (by kernel_rfl) ?_)))))))))))))
    refine mv 4 rfl (pu (v:= .bool false) rfl (by kernel_rfl) (mv 10 rfl (pu (v:= .bool false) rfl (by kernel_rfl) (mv 1 rfl (ne_ (cw_ret (eo_ret [F0] rfl ⟨rfl,trivial⟩ ?_)))))))
    exact⟨_,rfl,rfl,hw1⟩
  · 
   refine cw_region (pf g1 0 rfl (by kernel_rfl) (wl_load rfl rfl (load_cell cellInt hb4 rfl) (by decide) (wl_cmp rfl rfl rfl true (ci_ge_t h0) (by decide) (mv 1 rfl (pf g1 0 rfl (by kernel_rfl) (wl_load rfl rfl (load_cell cellInt hb4 rfl) (by decide) (wl_cmp rfl rfl rfl false (ci_le_f h1) (by decide) (pu (v:= .bool false) rfl (by kernel_rfl) (mv 4 rfl (pu (v:= .bool false) rfl (by kernel_rfl) (mv 4 rfl (pu (v:= .bool false) rfl (by kernel_rfl) (mv 1 rfl ?_)))))))))))))
   refine mv 9 rfl (pu (v:= .bool false) rfl (by kernel_rfl) (mv 1 rfl (ne_ (cw_ret (eo_ret [F0] rfl ⟨rfl,trivial⟩ ?_)))))
   exact⟨_,rfl,rfl,hw1⟩
 · 
  refine cw_region (pf g1 0 rfl (by kernel_rfl) (wl_load rfl rfl (load_cell cellInt hb4 rfl) (by decide) (wl_cmp rfl rfl rfl false (ci_ge_f h0) (by decide) (mv 4 rfl (pu (v:= .bool false) rfl (by kernel_rfl) (mv 4 rfl (pu (v:= .bool false) rfl (by kernel_rfl) (mv 4 rfl (pu (v:= .bool false) rfl (by kernel_rfl) (mv 10 rfl (pu (v:= .bool false) rfl (by kernel_rfl) (mv 1 rfl (wl_nil ?_)))))))))))))
  refine eo_then (cw_ret (eo_ret [F0] rfl ⟨rfl,trivial⟩ ?_))
  exact⟨_,rfl,rfl,hw1⟩
theorem cellRows:∀w,(isAgg 54).run Tryz.prog w= .ok false w:=fun _=>by kernel_rfl
theorem unRows:Tryz.prog.underlying 54=some (.slice 22):=Tryz.underlying54
structure Bl (lb:Nat) (w w':World):Prop where
 b:Below lb w w'
 l:lb≤w.heap.size
theorem Bl.size {lb:Nat}{w w':World}(h:Bl lb w w'):w.heap.size≤w'.heap.size:=h.b.size
theorem Bl.refl {lb:Nat}{w:World}(h:lb≤w.heap.size):Bl lb w w:=⟨Below.refl _ _,h⟩
theorem Bl.ext {lb:Nat}{a w w':World}(h:Bl lb a w) (e:Ext w w'):Bl lb a w':=⟨h.b.trans (e.below.mono (Nat.le_trans h.l h.b.size)),h.l⟩
theorem Bl.upd {lb g:Nat}{a w w':World}(h:Bl lb a w) (u:Upd g w w') (hg:lb≤g):Bl lb a w':=⟨h.b.grown u.by_ (Nat.le_trans h.l h.b.size) (fun k e=>by cases e;exact hg),h.l⟩
theorem Bl.updO {lb:Nat}{A:Option Addr}{a w w':World}(h:Bl lb a w) (u:UpdO A w w') (hg:∀p,A=some p→lb≤p.block):Bl lb a w':=
 ⟨h.b.grown u.by_ (Nat.le_trans h.l h.b.size) (fun k e=>by cases A with | none=>cases e | some p=>cases e;exact hg p rfl),h.l⟩
theorem Bl.toExt {lb:Nat}{a w w':World}(h:Bl lb w w') (e:Ext a w) (hl:a.heap.size≤lb):Ext a w':=⟨e.below.trans (h.b.mono hl)⟩
theorem Bk.bl {lb:Nat}{w w':World}{g:Nat}{t:TypeId}{vs:List Value}(h:Bk w g t vs) (e:Bl lb w w') (hg:g<lb):Bk w' g t vs:=(e.b.block g hg).trans h
section
variable {P:Program}{w w':World}{lb:Nat}{t:TypeId}{A:Option Addr}{n cap:Nat}{vs:List Value}
theorem Own.cellAt (h:Own w lb t 1 A n cap vs){i:Nat}(hi:i<n):∃p,A.map (·.add (i*1))=some p∧w.cell? p=some (vs.getD i undef):=by
 obtain⟨a,ha,hc⟩:=h.rv.get i (by omega)
 exact⟨a.add i,by rw [ha,Nat.mul_one];rfl,hc⟩
theorem run_setO (h:Own w lb t 1 A n cap vs){T:TypeId}(hT:∀w,(sizeOf T).run P w= .ok 1 w){i:Nat}(hi:i<n){p:Addr}(hp:A.map (·.add (i*1))=some p){v:Value}(hv:v.cells= #[v]) (h1:v.oneCell'=true):
  ∃w',(storeVar T p v).run P w= .ok () w'∧Own w' lb t 1 A n cap (vs.set i v)∧UpdO A w w':=by
 rcases h with⟨rfl,_⟩ | ⟨g,cs,rfl,hg,hk,hn,hcm,hcl,hv2⟩
 ·cases hp
 ·have hp':p=⟨g,i,none⟩:=by
   injection hp with hp
   rw [←hp,Nat.mul_one]
   show (⟨g,0,none⟩:Addr).add i=_
   rw [add_lit0,Nat.zero_add]
  subst hp'
  obtain⟨w',hr,hb2,hu,hs⟩:=run_store1v (P:=P) hT hv hk (show i<cs.length by omega) h1 _ rfl
  refine⟨w',hr,Or.inr ⟨g,_,rfl,hg,hb2,hn,hcm,by rw [List.length_set];exact hcl,?_⟩,hu.updO⟩
  rw [←hv2,List.take_set]
end
def rwv (ra:Nat→Option Addr) (rc:Nat→Nat) (m r:Nat):Value:= .slice (ra r) m (rc r)
theorem getD_map_lt {α:Type}{ps:List α}{f:α→Value}{i:Nat}{d:α}(hi:i<ps.length):(ps.map f).getD i undef=f (ps.getD i d):=by
 simp [List.getD_eq_getElem?_getD,List.getElem?_map,List.getElem?_eq_getElem hi]
section
variable {w:World}{lb:Nat}{t:TypeId}{A:Option Addr}{n cap m:Nat}{ra:Nat→Option Addr}{rc:Nat→Nat}{ps:List Nat}{ns:List Int}
theorem Own.rowAt (h:Own w lb t 1 A n cap (ps.map (rwv ra rc m))){i:Nat}(hi:i<n):∃p,A.map (·.add (i*1))=some p∧w.cell? p=some (.slice (ra (ps.getD i 0)) m (rc (ps.getD i 0))):=by
 obtain⟨p,hp,hc⟩:=h.cellAt hi
 have hl:ps.length=n:=by simpa using h.rv.len
 rw [getD_map_lt (d:=0) (by omega)] at hc
 exact⟨p,hp,hc⟩
end
section
variable {P:Program}{w:World}{lb:Nat}{A:Option Addr}{n cap m:Nat}{ra:Nat→Option Addr}{rc:Nat→Nat}{ps:List Nat}{ns:List Int}{p:Addr}
theorem run_setRow (h:Own w lb 22 1 A n cap (ps.map (rwv ra rc m))){i:Nat}(hi:i<n) (hp:A.map (·.add (i*1))=some p) (x:Nat):
  ∃w',(storeVar 22 p (.slice (ra x) m (rc x))).run Tryz.prog w= .ok () w'∧Own w' lb 22 1 A n cap ((ps.set i x).map (rwv ra rc m))∧UpdO A w w':=by
 obtain⟨w',h1,h2,h3⟩:=run_setO (P:=Tryz.prog) h szInts hi hp (v:=rwv ra rc m x) rfl rfl
 rw [←List.map_set] at h2
 exact⟨w',h1,h2,h3⟩
end
def ent (Z:Mx) (r j:Nat) (x:Int):Mx:=fun a b=>if a=r∧b=j then x else Z a b
structure Rcs (K lb n m:Nat) (ra:Nat→Option Addr) (rc:Nat→Nat) (w:World) (Z:Mx):Prop where
 row:∀r,r<n→∃zs,Lz none K 0 w lb (ra r) m (rc r) zs∧∀j,j<m→zs.getD j 0=Z r j
 dis:∀r s,r<n→s<n→r≠s→∀p q,ra r=some p→ra s=some q→p.block≠q.block
section
variable {K lb n m:Nat}{ra:Nat→Option Addr}{rc:Nat→Nat}{w w':World}{Z:Mx}
theorem Rcs.ext (h:Rcs K lb n m ra rc w Z) (x:Ext w w'):Rcs K lb n m ra rc w' Z:=⟨fun r hr=>by obtain⟨zs,h1,h2⟩:=h.row r hr;exact⟨zs,h1.ext x,h2⟩,h.dis⟩
theorem Rcs.updT {g:Nat}{T:TypeId}{us:List Value}(h:Rcs K lb n m ra rc w Z) (hb:Bk w g T us) (x:Upd g w w') (hne:∀r,r<n→∀p,ra r=some p→p.block≠g) (hT:45≠T:=by decide):Rcs K lb n m ra rc w' Z:=
 ⟨fun r hr=>by obtain⟨zs,h1,h2⟩:=h.row r hr;exact⟨zs,h1.updT hb x (hne r hr) hT,h2⟩,h.dis⟩
theorem Lz.updQ {m:Option World}{K b lb:Nat}{w w':World}{A:Option Addr}{n cap:Nat}{zs:List Int}{B:Option Addr}{lb' c k s:Nat}{T:TypeId}{us:List Value}(h:Lz m K b w lb A n cap zs) (ho:Own w lb' T s B k c us) (x:UpdO B w w') (hne:∀p q,B=some p→A=some q→p.block≠q.block) (hT:45≠T:=by decide):Lz m K b w' lb A n cap zs:=by
 obtain⟨es,h1,h2,h3,h4⟩:=h
 exact⟨es,h1.updO x hne,h2,h3,fun i hi=>⟨(h4 i hi).1,(h4 i hi).2.updOT ho x hT⟩⟩
theorem Rcs.updQ {B:Option Addr}{lb' c k s:Nat}{T:TypeId}{us:List Value}(h:Rcs K lb n m ra rc w Z) (ho:Own w lb' T s B k c us) (x:UpdO B w w') (hne:∀r,r<n→∀p q,B=some p→ra r=some q→p.block≠q.block) (hT:45≠T:=by decide):Rcs K lb n m ra rc w' Z:=
 ⟨fun r hr=>by obtain⟨zs,h1,h2⟩:=h.row r hr;exact⟨zs,h1.updQ ho x (hne r hr) hT,h2⟩,h.dis⟩
theorem Rcs.lt (h:Rcs K lb n m ra rc w Z):∀r,r<n→∀p,ra r=some p→lb≤p.block∧p.block<w.heap.size:=fun r hr p hp=>by
 obtain⟨zs,h1,_⟩:=h.row r hr
 exact h1.block p hp
theorem Rcs.own (h:Rcs K lb n m ra rc w Z){r:Nat}(hr:r<n):∃us,Own w lb 41 2 (ra r) m (rc r) us:=by
 obtain⟨zs,h1,_⟩:=h.row r hr
 exact h1.own
theorem Rcs.at (h:Rcs K lb n m ra rc w Z){r j:Nat}(hr:r<n) (hj:j<m):
  ∃p s B k c,(ra r).map (·.add (j*2))=some p∧(∀w',Ext w w'→∀(P:Program) (T:TypeId),AggT P T 2→(loadVar T p).run P w'= .ok (.agg #[.bool s,.slice B k c]) w')∧k≤K∧Zr w 0 s B k c (Z r j):=by
 obtain⟨zs,h1,h2⟩:=h.row r hr
 obtain⟨p,s,B,k,c,hp,ld,hk,he⟩:=h1.at hj
 exact⟨p,s,B,k,c,hp,ld,hk,by rw [←h2 j hj];exact he.zr⟩
end
section
variable {Q:Exit→Act→World→Prop}{N:Nat}{l:Fr}{w:World}{ops:Array Oper}{rest:List Oper}{ty:TypeId}{pos:String}{af:Array Edge}{gd:Option (Nat×Bool)}
theorem wl_setR {K lb n m:Nat}{ra:Nat→Option Addr}{rc:Nat→Nat}{Z:Mx}{r j:Nat}{x y:Operand}{p:Addr}{e:ZC}{z:Int}(hw:guardB ops l gd=some true) (hx:evo l x=some (.pointer (some p))) (hy:evo l y=some (.agg #[.bool e.s,.slice e.A e.n e.c]))
  (h:Rcs K lb n m ra rc w Z) (hr:r<n) (hj:j<m) (hp:(ra r).map (·.add (j*2))=some p) (he:Zr w 0 e.s e.A e.n e.c z) (hK:e.n≤K)
  (k:∀w',Rcs K lb n m ra rc w' (ent Z r j z)→UpdO (ra r) w w'→wl Tryz.prog ops Q N rest l w'):
  wl Tryz.prog ops Q N (⟨none,.store 41 x y,ty,pos,af,gd⟩::rest) l w:=by
 obtain⟨zs,h1,h2⟩:=h.row r hr
 obtain⟨us,ho⟩:=h1.own
 refine wl_setI (e:=e) (z:=z) hw hx hy hp hj h1 (Or.inl he) hK fun w' h3 hu=>k w' ⟨fun s hs=>?_,h.dis⟩ hu
 by_cases e1:s=r
 ·subst e1
  refine⟨_,h3,fun b hb=>?_⟩
  rw [getD_set (by rw [h1.len];exact hj)]
  unfold ent
  by_cases e2:b=j
  ·rw [if_pos e2,if_pos ⟨rfl,e2⟩]
  ·rw [if_neg e2,if_neg (fun q=>e2 q.2)];exact h2 b hb
 ·obtain⟨ys,h4,h5⟩:=h.row s hs
  refine⟨ys,h4.updO ho hu (h.dis r s hr hs (fun q=>e1 q.symm)),fun b hb=>?_⟩
  unfold ent
  rw [if_neg (fun q=>e1 q.1)];exact h5 b hb
end
end Go.Proofs.YtnpbbknemflpnaaGreat

namespace Go.Proofs.YtnpbbknemflpnaaGreat
def pm:Nat→Int
 | 0=>1
 | i+1=> -pm i
def sk (i r:Nat):Nat:=if r<i then r else r+1
def mi (A:Mx) (i:Nat):Mx:=fun r c=>A (sk i r) (c+1)
def dt:Nat→Mx→Int
 | 0,_=>1
 | n+1,A=>sm (n+1) fun i=>pm i*(A i 0*dt n (mi A i))
def srw (A:Mx) (r:Nat) (u:Nat→Int):Mx:=fun i j=>if i=r then u j else A i j
theorem srw_at (A:Mx) (r:Nat) (u:Nat→Int) (j:Nat):srw A r u r j=u j:=if_pos rfl
theorem srw_ne (A:Mx){r i:Nat}(u:Nat→Int) (j:Nat) (h:i≠r):srw A r u i j=A i j:=if_neg h
theorem sk_lt {i r n:Nat}(hr:r<n):sk i r<n+1:=by unfold sk;split <;> omega
theorem dt_congr {n:Nat}{A B:Mx}(h:∀i j,i<n→j<n→A i j=B i j):dt n A=dt n B:=by
 induction n generalizing A B with
 | zero=>rfl
 | succ n ih=>
  refine sm_congr fun i hi=>?_
  rw [h i 0 hi (by omega),ih (A:=mi A i) (B:=mi B i) fun r c hr hc=>h _ _ (sk_lt hr) (by omega)]
structure Alt (n:Nat) (F:Mx→Int):Prop where
 congr:∀A B:Mx,(∀i j,i<n→j<n→A i j=B i j)→F A=F B
 lin:∀(A:Mx) (r:Nat) (x:Int) (u v:Nat→Int),r<n→F (srw A r fun j=>x*u j+v j)=x*F (srw A r u)+F (srw A r v)
 alt:∀(A:Mx) (r s:Nat),r<s→s<n→(∀j,j<n→A r j=A s j)→F A=0
section
variable {n:Nat}{F:Mx→Int}
theorem srw_self (A:Mx) (r:Nat):srw A r (A r)=A:=by
 funext i j;unfold srw;split
 ·next h=>rw [h]
 ·rfl
theorem Alt.row0 (h:Alt n F) (A:Mx){r:Nat}(hr:r<n):F (srw A r fun _=>0)=0:=by
 have:=h.lin A r 1 (fun _=>0) (fun _=>0) hr
 simp only [Int.mul_zero,Int.add_zero] at this
 omega
theorem Alt.sum (h:Alt n F) (A:Mx){r:Nat}(hr:r<n) (m:Nat) (c:Nat→Int) (U:Nat→Nat→Int):F (srw A r fun j=>sm m fun l=>c l*U l j)=sm m fun l=>c l*F (srw A r (U l)):=by
 induction m with
 | zero=>exact h.row0 A hr
 | succ m ih=>
  have e:(fun j=>sm (m+1) fun l=>c l*U l j)=fun j=>c m*U m j+sm m fun l=>c l*U l j:=by
   funext j;exact Int.add_comm _ _
  rw [e,h.lin A r _ _ _ hr,ih];simp only [sm];omega
theorem Alt.of_adj (hc:∀A B:Mx,(∀i j,i<n→j<n→A i j=B i j)→F A=F B)
  (hl:∀(A:Mx) (r:Nat) (x:Int) (u v:Nat→Int),r<n→F (srw A r fun j=>x*u j+v j)=x*F (srw A r u)+F (srw A r v))
  (ha:∀(A:Mx) (r:Nat),r+1<n→(∀j,j<n→A r j=A (r+1) j)→F A=0):Alt n F:=by
 have hs:∀(A:Mx) (r:Nat),r+1<n→F (srw (srw A r (A (r+1))) (r+1) (A r))= -F A:=fun A r hr=>by
  let D:=fun (u v:Nat→Int)=>F (srw (srw A r u) (r+1) v)
  have l2:∀u v v',D u (fun j=>1*v j+v' j)=D u v+D u v':=fun u v v'=>by
   have:=hl (srw A r u) (r+1) 1 v v' hr
   rw [Int.one_mul] at this
   exact this
  have sw:∀u v,srw (srw A r u) (r+1) v=srw (srw A (r+1) v) r u:=fun u v=>by
   funext i j;unfold srw;split <;> (try split) <;> (first | omega | rfl)
  have l1:∀u u' v,D (fun j=>1*u j+u' j) v=D u v+D u' v:=fun u u' v=>by
   show F _=F _+F _
   rw [sw,sw,sw,hl _ r 1 u u' (by omega),Int.one_mul]
  have z:∀u,D u u=0:=fun u=>ha _ r hr fun j _=>by
   rw [srw_at,srw_ne _ _ _ (by omega),srw_at]
  have a:=z (fun j=>1*A r j+A (r+1) j)
  rw [l1,l2,l2,z,z] at a
  have b:D (A r) (A (r+1))=F A:=by
   show F _=_
   congr 1
   funext i j;unfold srw;split
   ·next h=>rw [h]
   ·split
    ·next h=>rw [h]
    ·rfl
  have c:F (srw (srw A r (A (r+1))) (r+1) (A r))=D (A (r+1)) (A r):=rfl
  rw [c];omega
 refine⟨hc,hl,fun A r s hrs hsn he=>?_⟩
 obtain⟨k,rfl⟩:∃k,s=r+1+k:=⟨s-(r+1),by omega⟩
 clear hrs
 induction k generalizing A with
 | zero=>exact ha A r hsn he
 | succ k ih=>
  have:=hs A (r+1+k) hsn
  have h2:=ih (srw (srw A (r+1+k) (A (r+1+k+1))) (r+1+k+1) (A (r+1+k))) (by omega) fun j hj=>by
   rw [srw_ne _ _ _ (by omega),srw_ne _ _ _ (by omega),srw_ne _ _ _ (by omega),srw_at]
   exact he j hj
  omega
theorem Alt.swap (h:Alt n F) (A:Mx){r s:Nat}(hr:r<n) (hs:s<n) (hne:r≠s):F (srw (srw A r (A s)) s (A r))= -F A:=by
 let D:=fun (u v:Nat→Int)=>F (srw (srw A r u) s v)
 have l2:∀u v v',D u (fun j=>1*v j+v' j)=D u v+D u v':=fun u v v'=>by
  have:=h.lin (srw A r u) s 1 v v' hs
  rw [Int.one_mul] at this
  exact this
 have sw:∀u v,srw (srw A r u) s v=srw (srw A s v) r u:=fun u v=>by
  funext i j;unfold srw;split <;> (try split) <;> (first | omega | rfl)
 have l1:∀u u' v,D (fun j=>1*u j+u' j) v=D u v+D u' v:=fun u u' v=>by
  show F _=F _+F _
  rw [sw,sw,sw,h.lin _ r 1 u u' hr,Int.one_mul]
 have z:∀u,D u u=0:=fun u=>by
  by_cases hlt:r<s
  ·exact h.alt _ r s hlt hs fun j _=>by rw [srw_at,srw_ne _ _ _ hne,srw_at]
  ·exact h.alt _ s r (by omega) hr fun j _=>by rw [srw_at,srw_ne _ _ _ hne,srw_at]
 have a:=z (fun j=>1*A r j+A s j)
 rw [l1,l2,l2,z,z] at a
 have b:D (A r) (A s)=F A:=by
  show F _=_
  congr 1
  funext i j;unfold srw;split
  ·next h=>rw [h]
  ·split
   ·next h=>rw [h]
   ·rfl
 have c:F (srw (srw A r (A s)) s (A r))=D (A s) (A r):=rfl
 rw [c];omega
def ef (f:Nat→Nat):Mx:=fun i j=>if f i=j then 1 else 0
theorem pigeon:∀(n:Nat) (f:Nat→Nat),(∀i,i<n+1→f i<n)→∃i j,i<j∧j<n+1∧f i=f j
 | 0,f,h=>absurd (h 0 (by omega)) (by omega)
 | n+1,f,h=>by
  by_cases he:∃i,i<n+1∧f i=f (n+1)
  ·obtain⟨i,hi,e⟩:=he;exact⟨i,n+1,hi,by omega,e⟩
  ·obtain⟨i,j,hij,hj,e⟩:=pigeon n (fun i=>if f i=n then f (n+1) else f i) fun i hi=>by
    have h1:=h i (by omega)
    have h2:=h (n+1) (by omega)
    have h3:f i≠f (n+1):=fun e=>he ⟨i,hi,e⟩
    show (if f i=n then f (n+1) else f i)<n
    split <;> omega
   refine⟨i,j,hij,by omega,?_⟩
   have h3:f i≠f (n+1):=fun e=>he ⟨i,by omega,e⟩
   have h4:f j≠f (n+1):=fun e=>he ⟨j,by omega,e⟩
   split at e <;> split at e <;> omega
theorem Alt.ef0 (h : Alt n F) (h0 : F m1 = 0) : ∀ (k : Nat), k ≤ n → ∀ f : Nat → Nat, (∀ i, i < n → f i < n) → (∀ i, i < n - k → f i = i) → F (ef f) = 0
  | 0, _, f, _, hi => by
    rw [h.congr _ m1 fun i j h1 _ => by unfold ef m1; rw [hi i (by omega)]]; exact h0
  | k + 1, hk, f, hf, hi => by
    by_cases he : f (n - (k + 1)) = n - (k + 1)
    · exact Alt.ef0 h h0 k (by omega) f hf fun i h1 => by
        by_cases e : i = n - (k + 1)
        · subst e; exact he
        · exact hi i (by omega)
    by_cases hs : ∃ s, n - (k + 1) < s ∧ s < n ∧ f s = n - (k + 1)
    · obtain ⟨s, h1, h2, h3⟩ := hs
      have hw := h.swap (ef f) (show n - (k + 1) < n by omega) h2 (by omega)
      have h4 := Alt.ef0 h h0 k (by omega) (fun i => if i = n - (k + 1) then f s else if i = s then f (n - (k + 1)) else f i) (fun i h1 => by
        show (if i = n - (k + 1) then f s else if i = s then f (n - (k + 1)) else f i) < n
        split
        · exact hf s h2
        · split
          · exact hf _ (by omega)
          · exact hf i h1) (fun i h1 => by
        show (if i = n - (k + 1) then f s else if i = s then f (n - (k + 1)) else f i) = i
        split
        · omega
        · rw [if_neg (by omega)]; exact hi i (by omega))
      have e : srw (srw (ef f) (n - (k + 1)) (ef f s)) s (ef f (n - (k + 1))) = ef (fun i => if i = n - (k + 1) then f s else if i = s then f (n - (k + 1)) else f i) := by
        funext i j
        unfold srw
        by_cases h5 : i = s
        · rw [if_pos h5]
          show (if f (n - (k + 1)) = j then (1 : Int) else 0) = if (if i = n - (k + 1) then f s else if i = s then f (n - (k + 1)) else f i) = j then 1 else 0
          rw [if_neg (show ¬ i = n - (k + 1) by omega), if_pos h5]
        · rw [if_neg h5]
          show _ = if (if i = n - (k + 1) then f s else if i = s then f (n - (k + 1)) else f i) = j then (1 : Int) else 0
          by_cases h6 : i = n - (k + 1)
          · rw [if_pos h6, if_pos h6]; rfl
          · rw [if_neg h6, if_neg h6, if_neg h5]; rfl
      rw [e, h4] at hw
      omega
    · -- none goes there: two go to one place
      obtain ⟨i, j, hij, hj, e⟩ := pigeon (n - 1) (fun i => if f i = n - 1 then n - (k + 1) else f i) fun i h1 => by
        have h2 := hf i (by omega)
        show (if f i = n - 1 then n - (k + 1) else f i) < n - 1
        split
        · next h3 =>
          by_cases h4 : k = 0
          · subst h4
            exfalso
            by_cases h5 : i = n - 1
            · subst h5; exact he h3
            · have := hi i (by omega); omega
          · omega
        · omega
      have hne : ∀ t, t < n → f t ≠ n - (k + 1) := fun t ht e => by
        by_cases h1 : t < n - (k + 1)
        · have := hi t h1; omega
        · by_cases h2 : t = n - (k + 1)
          · subst h2; exact he e
          · exact hs ⟨t, by omega, ht, e⟩
      refine h.alt _ i j hij (by omega) fun c _ => ?_
      have e' : f i = f j := by
        have h1 := hne i (by omega)
        have h2 := hne j (by omega)
        split at e <;> split at e <;> omega
      unfold ef
      rw [e']
theorem Alt.zero (h:Alt n F) (h0:F m1=0):∀(k:Nat),k≤n→∀(A:Mx) (f:Nat→Nat),(∀i,i<n→f i<n)→(∀i j,k≤i→i<n→j<n→A i j=ef f i j)→F A=0
 | 0,_,A,f,hf,ha=>by
  rw [h.congr A (ef f) fun i j hi hj=>ha i j (by omega) hi hj]
  exact h.ef0 h0 n (by omega) f hf fun i hi=>by omega
 | k+1,hk,A,f,hf,ha=>by
  have e:F A=F (srw A k fun j=>sm n fun l=>A k l*ef (fun _=>l) 0 j):=h.congr _ _ fun i j hi hj=>by
   by_cases h1:i=k
   ·subst h1
    rw [srw_at]
    have:(sm n fun l=>A i l*ef (fun _=>l) 0 j)=sm n fun l=>if l=j then A i l else 0:=sm_congr fun l _=>by
     unfold ef;split <;> omega
    rw [this,sm_at hj]
   ·rw [srw_ne _ _ _ h1]
  rw [e,h.sum A (by omega) n (A k) (fun l=>ef (fun _=>l) 0),←sm_zero n]
  refine sm_congr fun l hl=>?_
  rw [Alt.zero h h0 k (by omega) _ (fun i=>if i=k then l else f i) (fun i hi=>by
   show (if i=k then l else f i)<n
   split
   ·exact hl
   ·exact hf i hi) (fun i j h1 hi hj=>by
   by_cases h2:i=k
   ·subst h2;rw [srw_at];show _=if (if i=i then l else f i)=j then (1:Int) else 0;rw [if_pos rfl];rfl
   ·rw [srw_ne _ _ _ h2,ha i j (by omega) hi hj];show _=if (if i=k then l else f i)=j then (1:Int) else 0;rw [if_neg h2];rfl),Int.mul_zero]
end
theorem mi_sr_at (A:Mx) (r:Nat) (u:Nat→Int):mi (srw A r u) r=mi A r:=by
 funext i j;unfold mi;exact srw_ne _ _ _ (by unfold sk;split <;> omega)
theorem mi_sr_lt (A:Mx){r i:Nat}(u:Nat→Int) (h:r<i):mi (srw A r u) i=srw (mi A i) r (fun j=>u (j+1)):=by
 funext a b;unfold mi srw sk
 by_cases e:a=r
 ·subst e;rw [if_pos h,if_pos rfl,if_pos rfl]
 ·rw [if_neg e];rw [if_neg];split <;> omega
theorem mi_sr_gt (A:Mx){r i:Nat}(u:Nat→Int) (h:i<r):mi (srw A r u) i=srw (mi A i) (r-1) (fun j=>u (j+1)):=by
 funext a b;unfold mi srw sk
 by_cases e:a=r-1
 ·subst e;rw [if_neg (show¬r-1<i by omega),if_pos (by omega),if_pos rfl]
 ·rw [if_neg e];rw [if_neg];split <;> omega
theorem dt_lin:∀(n:Nat) (A:Mx) (r:Nat) (x:Int) (u v:Nat→Int),r<n→dt n (srw A r fun j=>x*u j+v j)=x*dt n (srw A r u)+dt n (srw A r v)
 | 0,_,r,_,_,_,h=>by omega
 | n+1,A,r,x,u,v,h=>by
  simp only [dt]
  rw [←sm_mul,←sm_add]
  refine sm_congr fun i hi=>?_
  by_cases e:i=r
  ·subst e
   rw [mi_sr_at,mi_sr_at,mi_sr_at,srw_at,srw_at,srw_at];grind
  ·rw [srw_ne _ _ _ e,srw_ne _ _ _ e,srw_ne _ _ _ e]
   by_cases hlt:r<i
   ·rw [mi_sr_lt _ _ hlt,mi_sr_lt _ _ hlt,mi_sr_lt _ _ hlt,dt_lin n (mi A i) r x _ _ (by omega)];grind
   ·rw [mi_sr_gt _ _ (show i<r by omega),mi_sr_gt _ _ (show i<r by omega),mi_sr_gt _ _ (show i<r by omega),dt_lin n (mi A i) (r-1) x _ _ (by omega)];grind
theorem sm_two {n r:Nat}(h:r+1<n) (f:Nat→Int) (h0:∀i,i<n→i≠r→i≠r+1→f i=0):sm n f=f r+f (r+1):=by
 rw [sm_congr (g:=fun i=>(if i=r then f i else 0)+if i=r+1 then f i else 0) (fun i hi=>by
  by_cases e:i=r
  ·subst e;rw [if_pos rfl,if_neg (by omega)];omega
  ·by_cases e2:i=r+1
   ·subst e2;rw [if_neg e,if_pos rfl];omega
   ·rw [if_neg e,if_neg e2,h0 i hi e e2];rfl),sm_add,sm_at (by omega),sm_at h]
theorem dt_adj:∀(n:Nat) (A:Mx) (r:Nat),r+1<n→(∀j,j<n→A r j=A (r+1) j)→dt n A=0
 | 0,_,r,h,_=>by omega
 | n+1,A,r,h,he=>by
  simp only [dt]
  rw [sm_two h _ fun i hi h1 h2=>?_]
  ·have e:dt n (mi A r)=dt n (mi A (r+1)):=dt_congr fun i j hi hj=>by
    unfold mi sk
    by_cases h3:i<r
    ·rw [if_pos h3,if_pos (by omega)]
    ·by_cases h4:i=r
     ·subst h4;rw [if_neg h3,if_pos (by omega)];exact (he (j+1) (by omega)).symm
     ·rw [if_neg h3,if_neg (by omega)]
   rw [e,he 0 (by omega)];simp only [pm];rw [Int.neg_mul];omega
  ·have:dt n (mi A i)=0:=by
    by_cases h3:i<r
    ·refine dt_adj n (mi A i) (r-1) (by omega) fun j hj=>?_
     unfold mi sk
     rw [if_neg (by omega),if_neg (by omega),show r-1+1=r by omega];exact he (j+1) (by omega)
    ·refine dt_adj n (mi A i) r (by omega) fun j hj=>?_
     unfold mi sk
     rw [if_pos (by omega),if_pos (by omega)];exact he (j+1) (by omega)
   rw [this,Int.mul_zero,Int.mul_zero]
theorem dt_alt (n:Nat):Alt n (dt n):=Alt.of_adj (fun _ _ h=>dt_congr h) (fun A r x u v h=>dt_lin n A r x u v h) (fun A r h he=>dt_adj n A r h he)
theorem dt_one:∀n,dt n m1=1
 | 0=>rfl
 | n+1=>by
  simp only [dt]
  rw [sm_front,sm_congr (g:=fun _=>0) (fun i _=>by
   have:m1 (i+1) 0=0:=if_neg (by omega)
   rw [this];grind),sm_zero]
  have e:mi m1 0=m1:=by
   funext a b;unfold mi sk m1
   rw [if_neg (show¬a<0 by omega)]
   by_cases h:a=b
   ·rw [if_pos h,if_pos (by omega)]
   ·rw [if_neg h,if_neg (by omega)]
  rw [e,dt_one n];rfl
theorem Alt.eq {n:Nat}{F:Mx→Int}(h:Alt n F) (A:Mx):F A=dt n A*F m1:=by
 have hd:=dt_alt n
 have h2:Alt n (fun A=> -F m1*dt n A+F A):=⟨fun A B e=>by show _=_;rw [hd.congr A B e,h.congr A B e],
  fun A r x u v hr=>by show _*_+_=x*(_*_+_)+(_*_+_);rw [hd.lin A r x u v hr,h.lin A r x u v hr];grind,
  fun A r s h1 h2 he=>by show _*_+_=_;rw [hd.alt A r s h1 h2 he,h.alt A r s h1 h2 he];omega⟩
 have:=h2.zero (by show-F m1*dt n m1+F m1=0;rw [dt_one];omega) n (by omega) A id (fun i hi=>hi) (fun i j h1 h2=>by omega)
 have e: -F m1*dt n A+F A=0:=this
 rw [Int.neg_mul] at e
 rw [Int.mul_comm];omega
theorem dt_mul (n:Nat) (A B:Mx):dt n (mm n A B)=dt n A*dt n B:=by
 have hd:=dt_alt n
 have e:∀(A:Mx) (r:Nat) (u:Nat→Int),mm n (srw A r u) B=srw (mm n A B) r fun j=>sm n fun k=>u k*B k j:=fun A r u=>by
  funext i j
  by_cases h:i=r
  ·subst h;rw [srw_at];exact sm_congr fun k _=>by rw [srw_at]
  ·rw [srw_ne _ _ _ h];exact sm_congr fun k _=>by rw [srw_ne _ _ _ h]
 have h:Alt n (fun A=>dt n (mm n A B)):=⟨fun A A' he=>dt_congr fun i j hi hj=>mm_congr (fun k hk=>he i k hi hk) (fun k _=>rfl),
  fun A r x u v hr=>by
   show dt n _=x*dt n _+dt n _
   rw [e,e,e,←hd.lin _ r x _ _ hr]
   congr 2
   funext j
   rw [←sm_mul,←sm_add];exact sm_congr fun k _=>by grind,
  fun A r s h1 h2 he=>hd.alt _ r s h1 h2 fun j _=>sm_congr fun k hk=>by rw [he k hk]⟩
 have h2:=h.eq A
 have h3:dt n (mm n m1 B)=dt n B:=dt_congr fun i j hi _=>m1_mm B j hi
 simp only [h3] at h2
 exact h2
def tq (A:Mx):Mx:=fun i j=>A j i
theorem dt_collin:∀(n:Nat) (A:Mx) (r:Nat) (x:Int) (u v:Nat→Int),r<n→dt n (tq (srw A r fun j=>x*u j+v j))=x*dt n (tq (srw A r u))+dt n (tq (srw A r v))
 | 0,_,r,_,_,_,h=>by omega
 | n+1,A,r,x,u,v,h=>by
  simp only [dt]
  rw [←sm_mul,←sm_add]
  refine sm_congr fun i hi=>?_
  cases r with
  | zero=>
   have e:∀w:Nat→Int,mi (tq (srw A 0 w)) i=mi (tq A) i:=fun w=>by
    funext a b;unfold mi tq;exact srw_ne _ _ _ (by omega)
   rw [e,e,e]
   show _*((x*u i+v i)*_)=x*(_*(u i*_))+_*(v i*_)
   grind
  | succ r=>
   have e:∀w:Nat→Int,mi (tq (srw A (r+1) w)) i=tq (srw (tq (mi (tq A) i)) r fun j=>w (sk i j)):=fun w=>by
    funext a b
    show srw A (r+1) w (b+1) (sk i a)=srw (tq (mi (tq A) i)) r (fun j=>w (sk i j)) b a
    by_cases h:b=r
    ·subst h;rw [srw_at,srw_at]
    ·rw [srw_ne _ _ _ (by omega),srw_ne _ _ _ h];rfl
   have e0:∀w:Nat→Int,tq (srw A (r+1) w) i 0=A 0 i:=fun w=>srw_ne _ _ _ (by omega)
   rw [e,e,e,e0,e0,e0,dt_collin n _ r x (fun j=>u (sk i j)) (fun j=>v (sk i j)) (by omega)];grind
theorem sk_sk {p q r:Nat}(h:p<q):sk q (sk p r)=sk p (sk (q-1) r):=by
 unfold sk
 by_cases h1:r<p
 ·rw [if_pos h1,if_pos (show r<q by omega),if_pos (show r<q-1 by omega),if_pos h1]
 ·rw [if_neg h1]
  by_cases h2:r+1<q
  ·rw [if_pos h2,if_pos (show r<q-1 by omega),if_neg h1]
  ·rw [if_neg h2,if_neg (show¬r<q-1 by omega),if_neg (show¬r+1<p by omega)]
theorem pm_add (i j:Nat):pm (i+j)=pm i*pm j:=by
 induction j with
 | zero=>simp [pm]
 | succ j ih=>rw [←Nat.add_assoc,pm,ih,pm,Int.mul_neg]
theorem dt_col01 (n:Nat) (A:Mx) (h:∀i,i<n+2→A i 0=A i 1):dt (n+2) A=0:=by
 let g:=fun p q=>pm (p+q)*(A p 0*A q 0*dt n fun r c=>A (sk q (sk p r)) (c+2))
 have e1:dt (n+2) A=sm (n+2) fun i=>sm (n+1) fun k=>pm i*(A i 0*(pm k*(A (sk i k) 0*dt n fun r c=>A (sk i (sk k r)) (c+2)))):=by
  rw [dt]
  refine sm_congr fun i hi=>?_
  rw [dt,←sm_mul,←sm_mul]
  refine sm_congr fun k hk=>?_
  have:mi A i k 0=A (sk i k) 0:=(h _ (sk_lt hk)).symm
  rw [this];rfl
 have e2:∀i,i<n+2→(sm (n+1) fun k=>pm i*(A i 0*(pm k*(A (sk i k) 0*dt n fun r c=>A (sk i (sk k r)) (c+2)))))=(sm (n+2) fun k=>if k<i then g k i else 0)+ -1*sm (n+2) fun l=>if i<l then g i l else 0:=fun i hi=>by
  have h1:(sm (n+2) fun k=>if k<i then g k i else 0)=sm (n+1) fun k=>if k<i then g k i else 0:=by
   show _+(if n+1<i then g (n+1) i else 0)=_
   rw [if_neg (by omega)];omega
  rw [h1,sm_front (n+1) fun l=>if i<l then g i l else 0,if_neg (by omega),Int.zero_add,←sm_mul,←sm_add]
  refine sm_congr fun k hk=>?_
  by_cases hlt:k<i
  ·rw [if_pos hlt,if_neg (by omega)]
   have:sk i k=k:=if_pos hlt
   rw [this]
   show _=pm (k+i)*_+_
   rw [pm_add];grind
  ·rw [if_neg hlt,if_pos (by omega)]
   have h2:sk i k=k+1:=if_neg hlt
   have h3:(fun r c=>A (sk i (sk k r)) (c+2))=fun r c=>A (sk (k+1) (sk i r)) (c+2):=by
    funext r c
    rw [sk_sk (show i<k+1 by omega)];rfl
   rw [h2,h3]
   show _=0+ -1*(pm (i+(k+1))*_)
   rw [pm_add];simp only [pm];grind
 rw [e1,sm_congr e2,sm_add,sm_mul,sm_swap];omega
theorem dt_coladj:∀(n:Nat) (A:Mx) (r:Nat),r+1<n→(∀i,i<n→A i r=A i (r+1))→dt n A=0
 | 0,_,r,h,_=>by omega
 | 1,_,r,h,_=>by omega
 | n+2,A,0,_,he=>dt_col01 n A he
 | n+2,A,r+1,h,he=>by
  rw [dt,←sm_zero (n+2)]
  refine sm_congr fun i hi=>?_
  rw [dt_coladj (n+1) (mi A i) r (by omega) fun a ha=>he _ (sk_lt ha)];grind
theorem dt_talt (n:Nat):Alt n (fun A=>dt n (tq A)):=
 Alt.of_adj (fun _ _ h=>dt_congr fun i j hi hj=>h j i hj hi) (fun A r x u v h=>dt_collin n A r x u v h) (fun A r h he=>dt_coladj n (tq A) r h fun i hi=>he i hi)
theorem dt_tq (n:Nat) (A:Mx):dt n (tq A)=dt n A:=by
 have:=(dt_talt n).eq A
 have e:tq m1=m1:=by
  funext i j
  show (if j=i then (1:Int) else 0)=if i=j then 1 else 0
  by_cases h:i=j
  ·rw [if_pos h,if_pos h.symm]
  ·rw [if_neg h,if_neg (fun e=>h e.symm)]
 simp only [e,dt_one,Int.mul_one] at this
 exact this
theorem dt_corner:∀(k:Nat) (A:Mx),(∀j,j<k→A k j=0)→dt (k+1) A=A k k*dt k A
 | 0,A,_=>by simp [dt,sm,pm]
 | k+1,A,h=>by
  have e0:dt (k+2) A=(sm (k+1) fun i=>pm i*(A i 0*dt (k+1) (mi A i)))+pm (k+1)*(A (k+1) 0*dt (k+1) (mi A (k+1))):=rfl
  have:∀i,i<k+1→pm i*(A i 0*dt (k+1) (mi A i))=A (k+1) (k+1)*(pm i*(A i 0*dt k (mi A i))):=fun i hi=>by
   have e:mi A i k=fun c=>A (k+1) (c+1):=by
    funext c;unfold mi sk;rw [if_neg (by omega)]
   rw [dt_corner k (mi A i) fun j hj=>by rw [e];exact h (j+1) (by omega),e];grind
  rw [e0,h 0 (by omega),sm_congr this,sm_mul,Int.zero_mul,Int.mul_zero,Int.add_zero];rfl
def bord (P:Mx) (k i j:Nat):Mx:=fun r c=>P (if r<k then r else i) (if c<k then c else j)
def bm (P:Mx) (k i j:Nat):Int:=dt (k+1) (bord P k i j)
theorem bm_0 (P:Mx) (i j:Nat):bm P 0 i j=P i j:=by simp [bm,bord,dt,sm,pm]
theorem bm_row (P:Mx) (k i:Nat):∃x:Nat→Int,∀j,bm P k i j=dt k P*P i j+sm k fun l=>x l*P l j:=by
 let B:=tq (bord P k i 0)
 let U:=fun l=>dt (k+1) (tq (srw B k fun r=>if l=r then 1 else 0))
 refine⟨U,fun j=>?_⟩
 have h:=dt_talt (k+1)
 have e:bm P k i j=dt (k+1) (tq (srw B k fun r=>sm (k+1) fun l=>P (if l<k then l else i) j*if l=r then 1 else 0)):=dt_congr fun r c hr hc=>by
  show _=srw B k _ c r
  by_cases h:c=k
  ·subst h
   rw [srw_at,sm_congr (g:=fun l=>if l=r then P (if l<c then l else i) j else 0) (fun l _=>by
    by_cases h2:l=r
    ·rw [if_pos h2,if_pos h2,Int.mul_one]
    ·rw [if_neg h2,if_neg h2,Int.mul_zero]),sm_at hr]
   unfold bord;rw [if_neg (show¬c<c by omega)]
  ·rw [srw_ne _ _ _ h]
   show P _ (if c<k then c else j)=P _ (if c<k then c else 0)
   rw [if_pos (show c<k by omega),if_pos (show c<k by omega)]
 have e2:U k=dt k P:=by
  show dt (k+1) (tq _)=_
  rw [dt_tq,dt_corner k _ fun j hj=>by rw [srw_at,if_neg (show¬k=j by omega)],srw_at,if_pos rfl,Int.one_mul,←dt_tq]
  refine dt_congr fun a b ha hb=>?_
  show srw B k _ b a=_
  rw [srw_ne _ _ _ (by omega)]
  show P (if a<k then a else i) (if b<k then b else 0)=_
  rw [if_pos ha,if_pos hb]
 rw [e,h.sum B (by omega) (k+1) (fun l=>P (if l<k then l else i) j) (fun l r=>if l=r then 1 else 0)]
 show (sm k fun l=>P (if l<k then l else i) j*U l)+P (if k<k then k else i) j*U k=_
 rw [e2,if_neg (show¬k<k by omega),sm_congr (g:=fun l=>U l*P l j) (fun l hl=>by rw [if_pos hl,Int.mul_comm]),Int.mul_comm];omega
theorem bm_tq (P:Mx) (k i j:Nat):bm (tq P) k j i=bm P k i j:=(dt_tq (k+1) (bord P k i j))
theorem bm_col (P:Mx) (k j:Nat):∃z:Nat→Int,∀i,bm P k i j=dt k P*P i j+sm k fun l=>z l*P i l:=by
 obtain⟨z,h⟩:=bm_row (tq P) k j
 exact⟨z,fun i=>by rw [←bm_tq,h i,dt_tq];rfl⟩
end Go.Proofs.YtnpbbknemflpnaaGreat

namespace Go.Proofs.YtnpbbknemflpnaaGreat
open Go.RowKit
theorem ln_pm (i:Nat) (x:Int):ln (pm i*x)=ln x:=by
 induction i with
 | zero=>rw [pm,Int.one_mul]
 | succ i ih=>rw [pm,Int.neg_mul,ln_neg,ih]
theorem ln_dt {K:Nat}:∀(n:Nat) (A:Mx),(∀i j,i<n→j<n→ln (A i j)≤K)→ln (dt n A)≤1+n*(K+n)
 | 0,_,_=>Nat.le_trans (ln_w1 (x:=1) (by decide) (by decide)) (by omega)
 | n+1,A,h=>by
  have h1:ln (dt (n+1) A)≤K+(1+n*(K+n))+(n+1):=ln_sm fun i hi=>by
   rw [ln_pm]
   exact ln_mul (h i 0 hi (by omega)) (ln_dt n _ fun a b ha hb=>h _ _ (sk_lt ha) (by omega))
  have e:(n+1)*(K+(n+1))=n*(K+n)+n+(K+(n+1)):=by rw [Nat.succ_mul,←Nat.add_assoc K n 1,Nat.mul_add n (K+n) 1];omega
  omega
def pr (X:Mx) (ps:List Nat):Mx:=fun i j=>X (ps.getD i 0) j
structure Per (n:Nat) (ps:List Nat):Prop where
 len:ps.length=n
 lt:∀i,i<n→ps.getD i 0<n
 inj:∀i j,i<n→j<n→ps.getD i 0=ps.getD j 0→i=j
structure Inv (n:Nat) (X:Mx) (k:Nat) (ps:List Nat) (Z:Mx) (tu:Bool) (z:Int):Prop where
 per:Per n ps
 ent:∀i j,k≤i→i<n→k≤j→j<n→Z (ps.getD i 0) j=bm (pr X ps) k i j
 last:z=dt k (pr X ps)
 ne:z≠0
 sgn:dt n (pr X ps)=(if tu then-1 else 1)*dt n X
def swp (ps:List Nat) (p k:Nat):List Nat:=(ps.set p (ps.getD k 0)).set k (ps.getD p 0)
theorem swp_get {ps:List Nat}{n p k i:Nat}(hl:ps.length=n) (hp:p<n) (hk:k<n):(swp ps p k).getD i 0=if i=k then ps.getD p 0 else if i=p then ps.getD k 0 else ps.getD i 0:=by
 unfold swp
 rw [getD_set (by rw [List.length_set];omega)]
 by_cases h:i=k
 ·rw [if_pos h,if_pos h]
 ·rw [if_neg h,if_neg h,getD_set (by omega)]
theorem Per.swp {n:Nat}{ps:List Nat}(h:Per n ps){p k:Nat}(hp:p<n) (hk:k<n):Per n (swp ps p k):=by
 refine⟨by unfold Go.Proofs.YtnpbbknemflpnaaGreat.swp;rw [List.length_set,List.length_set];exact h.len,fun i hi=>?_,fun i j hi hj e=>?_⟩
 ·rw [swp_get h.len hp hk]
  split
  ·exact h.lt p hp
  ·split
   ·exact h.lt k hk
   ·exact h.lt i hi
 ·rw [swp_get h.len hp hk,swp_get h.len hp hk] at e
  by_cases h1:i=k
  ·rw [if_pos h1] at e
   by_cases h2:j=k
   ·omega
   ·rw [if_neg h2] at e
    by_cases h3:j=p
    ·rw [if_pos h3] at e;have:=h.inj _ _ hp hk e;omega
    ·rw [if_neg h3] at e;have:=h.inj _ _ hp hj e;omega
  ·rw [if_neg h1] at e
   by_cases h2:j=k
   ·rw [if_pos h2] at e
    by_cases h3:i=p
    ·rw [if_pos h3] at e;have:=h.inj _ _ hk hp e;omega
    ·rw [if_neg h3] at e;have:=h.inj _ _ hi hp e;omega
   ·rw [if_neg h2] at e
    by_cases h3:i=p
    ·rw [if_pos h3] at e
     by_cases h4:j=p
     ·omega
     ·rw [if_neg h4] at e;have:=h.inj _ _ hk hj e;omega
    ·rw [if_neg h3] at e
     by_cases h4:j=p
     ·rw [if_pos h4] at e;have:=h.inj _ _ hi hk e;omega
     ·rw [if_neg h4] at e;exact h.inj _ _ hi hj e
theorem Inv.start {n:Nat}{X Z:Mx}(hZ:∀i j,i<n→j<n→Z i j=X i j):Inv n X 0 (List.range n) Z false 1:=by
 have hg:∀i,i<n→(List.range n).getD i 0=i:=fun i hi=>by simp [List.getD_eq_getElem?_getD,hi]
 refine⟨⟨List.length_range,fun i hi=>by rw [hg i hi];exact hi,fun i j hi hj e=>by rw [hg i hi,hg j hj] at e;exact e⟩,fun i j _ hi _ hj=>?_,rfl,by decide,?_⟩
 ·rw [hg i hi,hZ i j hi hj,bm_0]
  show _=X ((List.range n).getD i 0) j
  rw [hg i hi]
 ·rw [if_neg (by decide),Int.one_mul]
  exact dt_congr fun i j hi hj=>by show X ((List.range n).getD i 0) j=_;rw [hg i hi]
end Go.Proofs.YtnpbbknemflpnaaGreat

namespace Go.Proofs.YtnpbbknemflpnaaGreat
structure Stp where
 k:Int
 i:Int
 j:Int
 f:Int
def insd (n:Nat) (i:Int):Prop:=0≤i∧i<(n:Int)
instance (n:Nat) (i:Int):Decidable (insd n i):=inferInstanceAs (Decidable (_∧_))
def Stp.fit (n:Nat) (s:Stp):Prop:=(s.k=1∧insd n s.i∧insd n s.j)∨(s.k=2∧insd n s.i)∨(s.k=3∧insd n s.i∧insd n s.j∧s.i≠s.j)
instance (n:Nat) (s:Stp):Decidable (s.fit n):=inferInstanceAs (Decidable (_∨_∨_))
def stp (s:Stp) (A:Mx):Mx:=fun a b=>
 if s.k=1 then (if a=s.j.toNat then A s.i.toNat b else if a=s.i.toNat then A s.j.toNat b else A a b)
 else if a=s.i.toNat then (if s.k=2 then-A a b else s.f*A s.j.toNat b+A a b) else A a b
theorem insd_nat {n:Nat}{i:Int}(h:insd n i):∃a:Nat,i=a∧a<n:=⟨i.toNat,by have:=h.1;omega,by have:=h.1;have:=h.2;omega⟩
def stps:List Stp→Mx→Mx
 | [],A=>A
 | s::l,A=>stps l (stp s A)
theorem stps_app:∀(l:List Stp) (s:Stp) (A:Mx),stps (l++ [s]) A=stp s (stps l A)
 | [],_,_=>rfl
 | x::l,s,A=>by simp only [List.cons_append,stps];exact stps_app l s _
def Stp.z:Stp:=⟨0,0,0,0⟩
theorem take_succD {α:Type}{l:List α}{i:Nat}(d:α) (h:i<l.length):l.take (i+1)=l.take i++ [l.getD i d]:=by
 rw [List.take_add_one,List.getElem?_eq_getElem h,List.getD_eq_getElem?_getD,List.getElem?_eq_getElem h];rfl
theorem stps_succ {l:List Stp}{i:Nat}(A:Mx) (h:i<l.length):stps (l.take (i+1)) A=stp (l.getD i Stp.z) (stps (l.take i) A):=by rw [take_succD Stp.z h,stps_app]
theorem stp_ln {n c K m:Nat}{s:Stp}{A:Mx}(h:s.fit n) (hA:∀a b,a<n→b<c→ln (A a b)≤K) (hf:s.k=3→ln s.f≤m):∀a b,a<n→b<c→ln (stp s A a b)≤K+(m+1):=fun a b ha hb=>by
 unfold stp
 rcases h with⟨hk,hi,hj⟩ | ⟨hk,hi⟩ | ⟨hk,hi,hj,hne⟩
 ·rw [if_pos hk]
  obtain⟨x,hx,hx2⟩:=insd_nat hi
  obtain⟨y,hy,hy2⟩:=insd_nat hj
  rw [hx,hy,Int.toNat_natCast,Int.toNat_natCast]
  split
  ·have:=hA x b hx2 hb;omega
  ·split
   ·have:=hA y b hy2 hb;omega
   ·have:=hA a b ha hb;omega
 ·rw [if_neg (by omega)]
  split
  ·(try rw [if_pos hk]);rw [ln_neg];have:=hA a b ha hb;omega
  ·have:=hA a b ha hb;omega
 ·rw [if_neg (by omega)]
  obtain⟨y,hy,hy2⟩:=insd_nat hj
  split
  ·rw [if_neg (by omega),hy,Int.toNat_natCast]
   exact Nat.le_trans (ln_add (ln_mul (hf hk) (hA y b hy2 hb)) (hA a b ha hb)) (by omega)
  ·have:=hA a b ha hb;omega
theorem stp_congr {n cc:Nat}{s:Stp}{A B:Mx}(h:s.fit n) (hAB:∀a b,a<n→b<cc→A a b=B a b):∀a b,a<n→b<cc→stp s A a b=stp s B a b:=fun a b ha hb=>by
 unfold stp
 rcases h with⟨hk,hi,hj⟩ | ⟨hk,hi⟩ | ⟨hk,hi,hj,hne⟩
 ·rw [if_pos hk,if_pos hk]
  obtain⟨x,hx,hx2⟩:=insd_nat hi
  obtain⟨y,hy,hy2⟩:=insd_nat hj
  rw [hx,hy,Int.toNat_natCast,Int.toNat_natCast,hAB x b hx2 hb,hAB y b hy2 hb,hAB a b ha hb]
 ·rw [hAB a b ha hb,if_pos hk,if_pos hk]
  simp only [show¬s.k=1 by omega,if_false]
 ·obtain⟨y,hy,hy2⟩:=insd_nat hj
  rw [hy,Int.toNat_natCast,hAB y b hy2 hb,hAB a b ha hb]
  simp only [show¬s.k=1 by omega,if_false]
theorem stps_ln {n cc K:Nat}{ss:List Stp}{ms:List Nat}{A:Mx}(hA:∀a b,a<n→b<cc→ln (A a b)≤K) (hl:ms.length=ss.length) (hf:∀i,i<ss.length→(ss.getD i Stp.z).fit n) (hm:∀i,i<ss.length→ln (ss.getD i Stp.z).f≤ms.getD i 0):
  ∀i,i≤ss.length→∀a b,a<n→b<cc→ln (stps (ss.take i) A a b)≤K+((ms.take i).sum+i):=by
 intro i
 induction i with
 | zero=>intro _ a b ha hb;exact Nat.le_trans (hA a b ha hb) (Nat.le_add_right _ _)
 | succ i ih=>
  intro hi a b ha hb
  rw [stps_succ _ hi,take_succD 0 (show i<ms.length by omega),List.sum_append,List.sum_cons,List.sum_nil]
  exact Nat.le_trans (stp_ln (m:=ms.getD i 0) (hf i hi) (ih (by omega)) (fun _=>hm i hi) a b ha hb) (by omega)
theorem take_sum_le:∀(ms:List Nat) (i:Nat),(ms.take i).sum≤ms.sum
 | [],i=>by simp
 | m::ms,0=>by simp
 | m::ms,i+1=>by simp only [List.take_succ_cons,List.sum_cons];have:=take_sum_le ms i;omega
theorem pr_range {n:Nat}(X:Mx) (a b:Nat) (ha:a<n):pr X (List.range n) a b=X a b:=by
 unfold pr;rw [List.getD_eq_getElem?_getD,List.getElem?_range ha];rfl
theorem pr_swap {n:Nat}{Z:Mx}{ps:List Nat}(hp:Per n ps){s:Stp}(hk:s.k=1){i j:Nat}(hi:s.i=i) (hj:s.j=j) (hi2:i<n) (hj2:j<n) (a b:Nat):pr Z (swp ps i j) a b=stp s (pr Z ps) a b:=by
 unfold pr stp
 rw [swp_get hp.len hi2 hj2,if_pos hk,hi,hj,Int.toNat_natCast,Int.toNat_natCast]
 split
 ·rfl
 ·split <;> rfl
theorem pr_neg {n cc:Nat}{Z Y:Mx}{ps:List Nat}{s:Stp}(hk:s.k=2){i:Nat}(hi:s.i=i) (h:∀a b,a<n→b<cc→Y (ps.getD a 0) b=if a=i∧b<cc then-Z (ps.getD i 0) b else Z (ps.getD a 0) b) (a b:Nat) (ha:a<n) (hb:b<cc):pr Y ps a b=stp s (pr Z ps) a b:=by
 unfold pr stp
 rw [h a b ha hb,if_neg (show¬s.k=1 by omega),hi,Int.toNat_natCast]
 by_cases e:a=i
 ·subst e;rw [if_pos ⟨rfl,hb⟩,if_pos rfl,if_pos hk]
 ·rw [if_neg (fun q=>e q.1),if_neg e]
theorem pr_add {n cc:Nat}{Z Y:Mx}{ps:List Nat}{s:Stp}(hk:s.k=3){i j:Nat}(hi:s.i=i) (hj:s.j=j) (h:∀a b,a<n→b<cc→Y (ps.getD a 0) b=if a=i∧b<cc then s.f*Z (ps.getD j 0) b+Z (ps.getD i 0) b else Z (ps.getD a 0) b) (a b:Nat) (ha:a<n) (hb:b<cc):pr Y ps a b=stp s (pr Z ps) a b:=by
 unfold pr stp
 rw [h a b ha hb,if_neg (show¬s.k=1 by omega),hi,hj,Int.toNat_natCast,Int.toNat_natCast]
 by_cases e:a=i
 ·subst e;rw [if_pos ⟨rfl,hb⟩,if_pos rfl,if_neg (show¬s.k=2 by omega)]
 ·rw [if_neg (fun q=>e q.1),if_neg e]
theorem ent_row {n cc:Nat}{Z Y:Mx}{ps:List Nat}(hp:Per n ps){i c:Nat}(hi:i<n){F:Nat→Int}(h:∀a b,a<n→b<cc→Y (ps.getD a 0) b=if a=i∧b<c then F b else Z (ps.getD a 0) b){x:Int}(hx:x=F c):
  ∀a b,a<n→b<cc→(fun r k=>if r=ps.getD i 0∧k=c then x else Y r k) (ps.getD a 0) b=if a=i∧b<c+1 then F b else Z (ps.getD a 0) b:=fun a b ha hb=>by
 simp only
 by_cases e:a=i
 ·subst e
  by_cases e2:b=c
  ·subst e2;rw [if_pos ⟨rfl,rfl⟩,if_pos ⟨rfl,by omega⟩,hx]
  ·rw [if_neg (fun q=>e2 q.2),h a b ha hb]
   by_cases e3:b<c
   ·rw [if_pos ⟨rfl,e3⟩,if_pos ⟨rfl,by omega⟩]
   ·rw [if_neg (fun q=>e3 q.2),if_neg (fun q=>e3 (by omega))]
 ·rw [if_neg (fun q=>e (hp.inj a i ha hi q.1)),h a b ha hb,if_neg (fun q=>e q.1),if_neg (fun q=>e q.1)]
end Go.Proofs.YtnpbbknemflpnaaGreat

namespace Go.Proofs.YtnpbbknemflpnaaGreat
open Go.RowKit
def mk (d:Nat→Int) (n:Nat) (X:Mx) (t:Nat):Mx:=fun i j=>cv d (fun l=>mp n X l i j) t
section
variable {P:Program}{Q:Exit→Act→World→Prop}{n:Nat}{l:Fr}{w:World}{ops:Array Oper}{rest:List Oper}{d:Nat}{ty:TypeId}{pos:String}{af:Array Edge}{gd:Option (Nat×Bool)}
theorem exec_invoke {x:Operand}{nm:String}{xs:Array Operand}{ts:Array TypeId}{dst:Option Nat}{t:TypeId}{u:Value}{k:FuncId}(vs:List Value) (hx:evo l x=some (.iface t u))
  (hxs:xs.toList.map (evo l)=vs.map some) (he:∀w:World,(invoke (.fn (.method nm) #[]) (.iface t u::vs).toArray).run P w= .ok (.enter k (u::vs).toArray) w){a:Act}(ha:Rp n l a):
  (execOp a.eval ⟨dst,.call {callee:= .invoke x nm,args:=xs,argTypes:=ts},ty,pos,af,gd⟩).run P w= .ok (.enter k (u::vs).toArray) w:=by
 have e1:xs.map a.eval=vs.toArray:=by
  apply Array.ext'
  rw [Array.toList_map]
  exact map_evo ha _ _ hxs
 unfold execOp
 simp only [resolve,ha.ev hx,e1,Sem.run_bind,Sem.run_pure,Result.andThen_ok]
 rw [show (#[Value.iface t u]++vs.toArray:Array Value)=(.iface t u::vs).toArray by simp,he]
theorem wl_callI {x:Operand}{nm:String}{xs:Array Operand}{ts:Array TypeId}{t:TypeId}{u:Value}{k:FuncId}(vs:List Value){R:Ending→World→Prop}(hw:guardB ops l gd=some true) (hx:evo l x=some (.iface t u))
  (hxs:xs.toList.map (evo l)=vs.map some) (he:∀w:World,(invoke (.fn (.method nm) #[]) (.iface t u::vs).toArray).run P w= .ok (.enter k (u::vs).toArray) w) (hn:d<n) (hc:Calls P k (u::vs).toArray w R)
  (h:∀e w',R e w'→Ret (fun v=>wl P ops Q n rest ((d,v)::l) w') e):wl P ops Q n (⟨some d,.call {callee:= .invoke x nm,args:=xs,argTypes:=ts},ty,pos,af,gd⟩::rest) l w:=fun a ha=>by
 refine wl_plain hw ha fun K hK=>?_
 unfold Oper.wp
 rw [exec_invoke vs hx hxs he ha]
 refine hc.mono fun e w' hR=>?_
 have:=h e w' hR
 cases e with
 | returned v=>exact hK _ _ (this _ (ha.put hn v))
 | panicked c=>exact this.elim
 | outgrown=>exact this.elim
end
theorem Lz.updY {m:Option World}{K b lb:Nat}{w w':World}{A:Option Addr}{n cap:Nat}{zs:List Int}{g:Nat}{T:TypeId}{us:List Value}(h:Lz m K b w lb A n cap zs) (hb:Bk w g T us) (x:Upd g w w') (hI:41≠T:=by decide) (hT:45≠T:=by decide):Lz m K b w' lb A n cap zs:=by
 obtain⟨es,h1,h2,h3,h4⟩:=h
 exact⟨es,h1.updT hb hI x,h2,h3,fun i hi=>⟨(h4 i hi).1,(h4 i hi).2.updT hb x hT⟩⟩
theorem aggStep:AggT Tryz.prog 58 5:=⟨fun _=>by kernel_rfl,fun _=>by kernel_rfl⟩
structure Sl (w:World) (A:Option Addr) (n:Nat) (ss:List Stp) (ms:List Nat):Prop where
 len:ss.length=n
 mlen:ms.length=n
 get:∀i,i<n→∃p s B c,A.map (·.add (i*5))=some p∧(∀j,j<5→w.cell? (p.add j)=some ([.int .i64 (ss.getD i Stp.z).k,.int .i64 (ss.getD i Stp.z).i,.int .i64 (ss.getD i Stp.z).j,.bool s,.slice B (ms.getD i 0) c].getD j undef))∧Zi w s B (ms.getD i 0) c (ss.getD i Stp.z).f
theorem Sl.ext {w w':World}{A:Option Addr}{n:Nat}{ss:List Stp}{ms:List Nat}(h:Sl w A n ss ms) (e:Ext w w'):Sl w' A n ss ms:=⟨h.len,h.mlen,fun i hi=>by
 obtain⟨p,s,B,c,h1,h2,h3⟩:=h.get i hi
 exact⟨p,s,B,c,h1,fun j hj=>e.cell (h2 j hj),h3.ext e⟩⟩
theorem Sl.at {w:World}{A:Option Addr}{n:Nat}{ss:List Stp}{ms:List Nat}(h:Sl w A n ss ms){i:Nat}(hi:i<n):
  ∃p s B c,A.map (·.add (i*5))=some p∧(∀w',Ext w w'→(loadVar 58 p).run Tryz.prog w'= .ok (.agg #[.int .i64 (ss.getD i Stp.z).k,.int .i64 (ss.getD i Stp.z).i,.int .i64 (ss.getD i Stp.z).j,.bool s,.slice B (ms.getD i 0) c]) w')∧Zi w s B (ms.getD i 0) c (ss.getD i Stp.z).f:=by
 obtain⟨p,s,B,c,h1,h2,h3⟩:=h.get i hi
 exact⟨p,s,B,c,h1,fun w' e=>load_at aggStep [.int .i64 (ss.getD i Stp.z).k,.int .i64 (ss.getD i Stp.z).i,.int .i64 (ss.getD i Stp.z).j,.bool s,.slice B (ms.getD i 0) c] rfl (fun j hj=>e.cell (h2 j hj)),h3⟩
def Mv (b:Nat) (s:Stp):Value→World→Prop:=fun v w=>
 (s.k=1∧v= .iface 87 (.agg #[.int .i64 s.i,.int .i64 s.j]))∨(s.k=2∧v= .iface 89 (.agg #[.int .i64 s.i]))∨
  (s.k=3∧∃t B m c,v= .iface 91 (.agg #[.int .i64 s.i,.int .i64 s.j,.bool t,.slice B m c])∧Zr w b t B m c s.f)∨(s.k≠1∧s.k≠2∧s.k≠3∧v= .iface 93 (.agg #[]))
def AddQ (b:Nat) (i j f:Int):Value→World→Prop:=fun v w=>∃t B m c,v= .agg #[.int .i64 i,.int .i64 j,.bool t,.slice B m c]∧Zr w b t B m c f
def AddI (b:Nat) (i j f:Int):Value→World→Prop:=fun v w=>∃t B m c,v= .iface 91 (.agg #[.int .i64 i,.int .i64 j,.bool t,.slice B m c])∧Zr w b t B m c f
end Go.Proofs.YtnpbbknemflpnaaGreat

namespace Go.Proofs.YtnpbbknemflpnaaGreat
open Go.ChangeShapes Go.WideShapes Go.ChangeAt Go.RowKit
theorem five_s {α:Type}{l:List α}(h:l.length=5):∃a b c d e,l= [a,b,c,d,e]:=by
 match l,h with
 | [a,b,c,d,e],_=>exact⟨a,b,c,d,e,rfl⟩
theorem four_s {α:Type}{l:List α}(h:l.length=4):∃a b c d,l= [a,b,c,d]:=by
 match l,h with
 | [a,b,c,d],_=>exact⟨a,b,c,d,rfl⟩
theorem fields_step:∃f0 f1 f2 f3:Field,Tryz.prog.underlying 58=some (.struct #[f0,f1,f2,f3])∧(f0.type=3∧f0.offset=0)∧(f1.type=3∧f1.offset=1)∧(f2.type=3∧f2.offset=2)∧(f3.type=41∧f3.offset=3):=
 ⟨_,_,_,_,Tryz.underlying58,⟨rfl,rfl⟩,⟨rfl,rfl⟩,⟨rfl,rfl⟩,⟨rfl,rfl⟩⟩
theorem cells_step:Tryz.prog.cellsOf 58=5:=by kernel_rfl
set_option maxRecDepth 20000 in
theorem open_stepc {H:Type}{enc:TypeId×Value→H}{W:World}{cs:List Value}{x:DataW H×List MemPlace}{fuel:Nat}
  (h:DataW.trod enc Tryz.prog W 0 (fun _=>true) true fuel 58 cs=some x):
  ∃(q:Stp×Bool×Option Addr×Nat×Nat),cs= [.int .i64 q.1.k,.int .i64 q.1.i,.int .i64 q.1.j,.bool q.2.1,.slice q.2.2.1 q.2.2.2.1 q.2.2.2.2]∧Zi W q.2.1 q.2.2.1 q.2.2.2.1 q.2.2.2.2 q.1.f∧q.2.2.2.1+1≤Rows.uptoBulk x.1:=by
 obtain⟨f0,f1,f2,f3,hu,⟨t0,o0⟩,⟨t1,o1⟩,⟨t2,o2⟩,t3,o3⟩:=fields_step
 obtain⟨ys,n,_,hx,hcl,hyl,hf⟩:=DataW.trod_struct hu h
 rw [cells_step] at hcl
 obtain⟨c0,c1,c2,c3,c4,rfl⟩:=five_s hcl
 obtain⟨y0,y1,y2,y3,rfl⟩:=four_s (show ys.length=4 from hyl)
 have g0:=hf 0 f0 rfl
 have g1:=hf 1 f1 rfl
 have g2:=hf 2 f2 rfl
 have g3:=hf 3 f3 rfl
 rw [t0,o0,cells_im] at g0
 rw [t1,o1,cells_im] at g1
 rw [t2,o2,cells_im] at g2
 rw [t3,o3,cells_int] at g3
 obtain⟨k,hk,_,_⟩:=DataW.trod_int Tryz.underlying3 (show DataW.trod enc Tryz.prog W 0 (fun _=>true) true n 3 [c0]=some y0 from g0)
 obtain⟨i,hi,_,_⟩:=DataW.trod_int Tryz.underlying3 (show DataW.trod enc Tryz.prog W 0 (fun _=>true) true n 3 [c1]=some y1 from g1)
 obtain⟨j,hj,_,_⟩:=DataW.trod_int Tryz.underlying3 (show DataW.trod enc Tryz.prog W 0 (fun _=>true) true n 3 [c2]=some y2 from g2)
 obtain⟨s,B,nb,c,z,rfl,rfl,hz,hb,_⟩:=open_zcells (show DataW.trod enc Tryz.prog W 0 (fun _=>true) true n 41 [c3,c4]=some y3 from g3)
 obtain rfl:=List.singleton_inj.1 hk
 obtain rfl:=List.singleton_inj.1 hi
 obtain rfl:=List.singleton_inj.1 hj
 subst hx
 refine⟨⟨⟨k,i,j,z⟩,s,B,nb,c⟩,rfl,hz,?_⟩
 simp only [Rows.uptoBulk,List.map_cons,Rows.uptoBulkAll]
 omega
set_option maxRecDepth 20000 in
theorem open_steps {H:Type}{enc:TypeId×Value→H}{W:World}{base:Nat}{v:Value}{d:DataW H}{p:List MemPlace}
  (hval:Value.okWide Tryz.prog W .any base 25 v) (h:DataW.Trod enc Tryz.prog W 0 (fun _=>true) true 25 v d p):
  ∃A n cap ss ms,v= .slice A n cap∧Sl W A n ss ms∧n+ms.sum≤Rows.uptoBulk d:=by
 obtain⟨A,n,cap,rfl⟩:=okWide_slice Tryz.underlying25 hval
 obtain⟨fuel,hf⟩:=h
 have hf':DataW.trod enc Tryz.prog W 0 (fun _=>true) true fuel 25 [.slice A n cap]=some (d,p):=hf
 rcases Go.Deep.open_slice Tryz.underlying25 hf' with⟨hcs,hx⟩ | ⟨a,n',cap',m,k,D,Pl,hcs,_,hl,hm,hmm,hx,hi⟩
 ·have h1:=List.singleton_inj.1 hcs
  injection h1 with e1 e2 e3
  subst e1;subst e2;subst e3
  exact⟨none,0,0,[],[],rfl,⟨rfl,rfl,fun i hi=>by omega⟩,by simp⟩
 ·have h1:=List.singleton_inj.1 hcs
  injection h1 with e1 e2 e3
  subst e1;subst e2;subst e3
  simp only [if_true] at hmm
  have hmm':=hmm.symm
  subst hmm'
  simp only [Prod.mk.injEq] at hx
  obtain⟨rfl,rfl⟩:=hx
  rw [cells_step] at hi
  have hel:∀i,i<cap→∃(q:Stp×Bool×Option Addr×Nat×Nat),(∀j,j<5→W.cell? ((a.add (i*5)).add j)=some ([.int .i64 q.1.k,.int .i64 q.1.i,.int .i64 q.1.j,.bool q.2.1,.slice q.2.2.1 q.2.2.2.1 q.2.2.2.2].getD j undef))∧Zi W q.2.1 q.2.2.1 q.2.2.2.1 q.2.2.2.2 q.1.f∧q.2.2.2.1+1≤Rows.uptoBulk (D i):=by
   intro i him
   obtain⟨cs',hc,ht'⟩:=hi i him
   obtain⟨_,hcl,hat⟩:=World.cells?_some hc
   obtain⟨q,rfl,hz,hb⟩:=open_stepc ht'
   refine⟨q,fun j hj=>?_,hz,hb⟩
   have:=hat j (by simpa using hj)
   rw [this,List.getD_eq_getElem?_getD,List.getElem?_eq_getElem (by simpa using hj)];rfl
  haveI:Inhabited (Stp×Bool×Option Addr×Nat×Nat):=⟨Stp.z,false,none,0,0⟩
  obtain⟨Q,hQ⟩:=Go.Deep.choose_lt hel
  refine⟨some a,n,cap,(List.range n).map (fun i=>(Q i).1),(List.range n).map (fun i=>(Q i).2.2.2.1),rfl,⟨by simp,by simp,fun i hin=>?_⟩,?_⟩
  ·obtain⟨h1,h2,_⟩:=hQ i (by omega)
   have e1:((List.range n).map (fun i=>(Q i).2.2.2.1)).getD i 0=(Q i).2.2.2.1:=by simp [List.getD_eq_getElem?_getD,hin]
   have e2:((List.range n).map (fun i=>(Q i).1)).getD i Stp.z=(Q i).1:=by simp [List.getD_eq_getElem?_getD,hin]
   rw [e1,e2]
   exact⟨_,_,_,_,rfl,h1,h2⟩
  ·have:=sum_map_le D (fun i=>(Q i).2.2.2.1) n (fun i hin=>(hQ i (by omega)).2.2)
   simp only [Rows.uptoBulk]
   omega
end Go.Proofs.YtnpbbknemflpnaaGreat

namespace Go.Proofs.YtnpbbknemflpnaaGreat
open Go.RowKit
structure Wd (F:Fence) (m:Nat) (P:Program):Prop where
 fn:∀f,F.fn f
 dep:F.depth=none
 call:∀f args w R,Calls P f args w R→CallsIn F (m-1) P f args w R
 row:∀s args w R,Rows P s args w R→RowsIn F (m-1) P s args w R
theorem Wd.wide (m:Nat) (P:Program):Wd Fence.wide m P:=⟨fun _=>trivial,rfl,fun _ _ _ _ h=>callsIn_wide.2 h,fun _ _ _ _ h c cs _=>by
 obtain⟨v,w',h1,h2⟩:=h c cs
 exact⟨v,w',h1,stepsIn_wide.2 h2⟩⟩
theorem Wd.round (l m:Nat) (P:Program):Wd (Fence.wide.inRound l) m P:=⟨fun _=>trivial,rfl,fun _ _ _ _ h=>CallsIn.inRound l (callsIn_wide.2 h),fun s args w R h=>(Wd.wide m P).row s args w R h⟩
def noDf (o:Oper):Bool:=match o.op with | .defer _=>false | _=>true
theorem noDf_ne {o:Oper}(h:noDf o=true):∀c,o.op≠ .defer c:=fun c e=>by unfold noDf at h;rw [e] at h;cases h
section
variable {F:Fence}{m:Nat}{P:Program}{ops:Array Oper}{Q Q':Exit→Act→World→Prop}
theorem oper_in (hW:Wd F m P){o:Oper}{a:Act}{w:World}{K K':Act→World→Prop}(hnd:noDf o=true) (hlo:¬LetsOut Q) (hp:∀c a w,Q (.panic c) a w→Q' (.panic c) a w) (hK:∀a w,K a w→K' a w) (h:o.wp P a w K Q∨(o.asks P a w∧LetsOut Q)):o.wpIn F m P a w K' Q':=by
 rcases h with h | h
 ·refine⟨fun _ _=>hW.fn _,?_⟩
  rw [Oper.semAt_eq _ _ _ (noDf_ne hnd)]
  unfold Oper.wp at h
  generalize (execOp a.eval o).run P w=r at h
  cases r with
  | ok x w'=>
   cases x with
   | value v=>exact hK _ _ h
   | skip=>exact hK _ _ h
   | defer d=>exact hK _ _ h
   | enter f args=>
    refine⟨fun hd=>(by rw [hW.dep] at hd;cases hd),(hW.call _ _ _ _ h).mono fun e w'' h2=>?_⟩
    cases e with
    | returned v=>exact hK _ _ h2
    | panicked c=>exact hp _ _ _ h2
    | outgrown=>exact absurd h2 hlo
   | row s args=>exact⟨fun hd=>(by rw [hW.dep] at hd;cases hd),(hW.row _ _ _ _ h).mono fun v w'' h2=>hK _ _ h2⟩
   | _=>exact h.elim
  | halt x w'=>
   cases x with
   | panic v=>exact hp _ _ _ h
   | _=>exact h.elim
 ·exact absurd h.2 hlo
theorem list_in (hW:Wd F m P) (hlo:¬LetsOut Q) (hp:∀c a w,Q (.panic c) a w→Q' (.panic c) a w) (rest:List Oper) (hq:∀a w,Q .normal a w→wpListIn F m P ops Q' rest a w):∀(pre:List Oper) (a:Act) (w:World),pre.all noDf=true→wpList P ops Q pre a w→wpListIn F m P ops Q' (pre++rest) a w
 | [],a,w,_,h=>hq a w h
 | o::pre,a,w,hn,h=>by
  simp only [List.all_cons,Bool.and_eq_true] at hn
  unfold wpList at h
  show wpListIn F m P ops Q' (o::(pre++rest)) a w
  unfold wpListIn
  split
  ·next hw=>
   rw [if_pos hw] at h
   exact oper_in hW hn.1 hlo hp (fun a w h=>list_in hW hlo hp rest hq pre a w hn.2 h) h
  ·next hw=>
   rw [if_neg hw] at h
   exact⟨fun _ _=>hW.fn _,list_in hW hlo hp rest hq pre _ w hn.2 h⟩
end
section
variable {F:Fence}{m:Nat}{P:Program}{Q:Exit→Act→World→Prop}{n:Nat}{l:Fr}{w:World}{ol:List Oper}
def ci (F:Fence) (m:Nat) (P:Program) (Q:Exit→Act→World→Prop) (n:Nat) (c:Code) (l:Fr) (w:World):Prop:=∀a,Rp n l a→c.wpIn F m P Q a w
theorem ci_block {i:Nat}{c:Code}(h:ci F m P (Exit.inBlock i Q) n c l w):ci F m P Q n (.block i c) l w:=fun a ha=>wpIn_block (h a ha)
theorem ci_region {id:Nat}(hW:Wd F m P) (hlo:¬LetsOut Q) (hnd:ol.all noDf=true) (h:wl P ol.toArray Q n ol l w):ci F m P Q n (.region id ol.toArray false) l w:=fun a ha=>
 wpIn_region_lit (by have:=list_in hW hlo (fun _ _ _ h=>h) [] (fun a w h=>h) ol a w hnd (h a ha);rwa [List.append_nil] at this)
theorem then_lets {K:Act→World→Prop}(h:¬LetsOut Q):¬LetsOut (Exit.then K Q):=fun⟨a,w,h2⟩=>h ⟨a,w,h2⟩
theorem block_lets {i:Nat}(h:¬LetsOut Q):¬LetsOut (Exit.inBlock i Q):=fun⟨a,w,h2⟩=>h ⟨a,w,h2⟩
def wlW (m:Nat) (P:Program) (ops:Array Oper) (Q:Exit→Act→World→Prop) (n:Nat) (rest:List Oper) (l:Fr) (w:World):Prop:=∀a,Rp n l a→wpListIn Fence.wide m P ops Q rest a w
theorem cw_regionW (m:Nat){id:Nat}(h:wlW m P ol.toArray Q n ol l w):cw P Q n (.region id ol.toArray false) l w:=fun a ha=>wpIn_wide.1 (wpIn_region_lit (h a ha))
theorem wlW_split {ops:Array Oper}(pre rest:List Oper) (hlo:¬LetsOut Q) (hnd:pre.all noDf=true) (h:wl P ops (Exit.then (fun a w=>wpListIn Fence.wide m P ops Q rest a w) Q) n pre l w):wlW m P ops Q n (pre++rest) l w:=fun a ha=>
 list_in (Q:=Exit.then (fun a w=>wpListIn Fence.wide m P ops Q rest a w) Q) (Q':=Q) (Wd.wide m P) (then_lets hlo) (fun _ _ _ h=>h) rest (fun _ _ h=>h) pre a w hnd (h a ha)
theorem eo_thenL {ops:Array Oper}{rest:List Oper}(h:wlW m P ops Q n rest l w):eo (Exit.then (fun a w=>wpListIn Fence.wide m P ops Q rest a w) Q) .normal n l w:=h
theorem wlW_wl {ops:Array Oper}{rest:List Oper}(hlo:¬LetsOut Q) (hnd:rest.all noDf=true) (h:wl P ops Q n rest l w):wlW m P ops Q n rest l w:=fun a ha=>by
 have:=list_in (Wd.wide m P) hlo (fun _ _ _ h=>h) [] (fun a w h=>h) rest a w hnd (h a ha)
 rwa [List.append_nil] at this
theorem wlW_yield {ops:Array Oper}{rest:List Oper}{d:Nat}{ty:TypeId}{pos:String}{af:Array Edge}{x:Operand}{xs:Array Operand}{ts:Array TypeId}{lp:Nat}(vs:List Value){R:Ending→World→Prop}(hx:evo l x=some (.func (.yield lp) #[] #[]))
  (hxs:xs.toList.map (evo l)=vs.map some) (hn:d<n) (hy:YieldAt Fence.wide (m-1) P lp vs.toArray w R) (h:∀e w',R e w'→Ret (fun v=>wlW m P ops Q n rest ((d,v)::l) w') e):
  wlW m P ops Q n (⟨some d,.call {callee:= .value x,args:=xs,argTypes:=ts},ty,pos,af,none⟩::rest) l w:=fun a ha=>by
 obtain⟨fn,tmps,assign,body,hr,hR⟩:=hy
 unfold wpListIn
 rw [if_pos (wanted_of (l:=l) (ops:=ops) rfl ha)]
 refine⟨fun _ _=>trivial,?_⟩
 have e1:xs.map a.eval=vs.toArray:=by
  apply Array.ext'
  rw [Array.toList_map]
  exact map_evo ha _ _ hxs
 have e2:(Oper.semAt Fence.wide.round a.eval ⟨some d,.call {callee:= .value x,args:=xs,argTypes:=ts},ty,pos,af,none⟩).run P w= .ok (.round lp fn tmps assign body) w:=by
  rw [Oper.semAt_eq _ _ _ (fun c e=>by cases e)]
  unfold execOp
  simp only [resolve,ha.ev hx,e1,Deferred.ofValue,Sem.run_bind,Sem.run_pure,Result.andThen_ok,invoke]
  simpa using hr
 rw [e2]
 refine⟨fun hd=>(by cases hd),hR.mono fun e w' h2=>?_⟩
 have h3:=h e w' h2
 cases e with
 | returned v=>exact h3 _ (ha.put hn v)
 | panicked c=>exact h3.elim
 | outgrown=>exact h3.elim
end
structure Nc (X Y:World):Prop where
 ex:∃row:Option Nat,X.grownBy Y row∧∀q,row=some q→∃o,X.heap[q]?=some o∧o.isCells=false
section
variable {X Y:World}
theorem Nc.heap (h:Nc X Y){g:Nat}{cs:Array Value}{t:TypeId}{z:Nat×Nat}(hb:X.heap[g]?=some (.cells cs t z)):Y.heap[g]?=some (.cells cs t z):=by
 obtain⟨row,h1,h2⟩:=h.ex
 refine (h1.block g (Array.getElem?_eq_some_iff.1 hb).1 (fun e=>?_)).trans hb
 obtain⟨o,ho,hc⟩:=h2 g e.symm
 rw [hb] at ho;cases ho;cases hc
theorem Bk.nc {g:Nat}{t:TypeId}{vs:List Value}(h:Bk X g t vs) (n:Nc X Y):Bk Y g t vs:=n.heap h
theorem Own.nc {b:Nat}{t:TypeId}{s:Nat}{A:Option Addr}{n cap:Nat}{vs:List Value}(h:Own X b t s A n cap vs) (c:Nc X Y):Own Y b t s A n cap vs:=by
 rcases h with h | ⟨g,cs,ha,hb,hk,r⟩
 ·exact Or.inl h
 ·exact Or.inr ⟨g,cs,ha,hb,hk.nc c,r⟩
theorem Zr.nc {b:Nat}{s:Bool}{A:Option Addr}{n cap:Nat}{z:Int}(h:Zr X b s A n cap z) (c:Nc X Y):Zr Y b s A n cap z:=⟨h.sgn,h.len,h.own.nc c⟩
theorem Lz.nc {K b lb:Nat}{A:Option Addr}{n cap:Nat}{zs:List Int}(h:Lz none K b X lb A n cap zs) (c:Nc X Y):Lz none K b Y lb A n cap zs:=by
 obtain⟨es,h1,h2,h3,h4⟩:=h
 exact⟨es,h1.nc c,h2,h3,fun i hi=>⟨(h4 i hi).1,Or.inl ((h4 i hi).2.zr.nc c)⟩⟩
theorem Rcs.nc {K lb n m:Nat}{ra:Nat→Option Addr}{rc:Nat→Nat}{Z:Mx}(h:Rcs K lb n m ra rc X Z) (c:Nc X Y):Rcs K lb n m ra rc Y Z:=⟨fun r hr=>by obtain⟨zs,h1,h2⟩:=h.row r hr;exact⟨zs,h1.nc c,h2⟩,h.dis⟩
theorem Nc.size (h:Nc X Y):X.heap.size≤Y.heap.size:=by obtain⟨row,h1,_⟩:=h.ex;exact h1.size
theorem Nc.put {l:Nat}{o:Obj}(o':Obj) (hl:X.heap[l]?=some o) (ho:o.isCells=false):Nc X (X.putObj l o'):=⟨some l,grownBy_putObj' X l o',fun q e=>by cases e;exact⟨o,hl,ho⟩⟩
end
theorem Zl.cut {w:World}{A:Option Addr}{n cap:Nat}{zs:List Int}{ms:List Nat}(h:Zl w A n cap zs ms){lo hi:Nat}(h1:lo≤hi) (h2:hi≤n):
  Zl w (if cap=lo then A else A.map (·.add (lo*2))) (hi-lo) (cap-lo) ((zs.take hi).drop lo) ((ms.take hi).drop lo):=by
 have hle:=h.le
 refine⟨by rw [List.length_drop,List.length_take,h.len];omega,by rw [List.length_drop,List.length_take,h.mlen];omega,by omega,Nat.le_trans (Nat.sub_le _ _) h.max,fun i hi'=>?_⟩
 obtain⟨a,s,B,c,ha,h3,h4,h5⟩:=h.get (lo+i) (by omega)
 have e1:∀{α:Type}(l:List α) (d:α),((l.take hi).drop lo).getD i d=l.getD (lo+i) d:=fun l d=>by
  simp only [List.getD_eq_getElem?_getD,List.getElem?_drop]
  rw [List.getElem?_take,if_pos (by omega)]
 rw [e1,e1,if_neg (by omega),ha]
 refine⟨a.add (lo*2),s,B,c,rfl,?_,?_,h5⟩
 ·rw [add_of_add,←Nat.add_mul];exact h3
 ·rw [add_of_add,←Nat.add_assoc,←Nat.add_mul];exact h4
theorem ZF.cut {w:World}{A:Option Addr}{n cap K:Nat}{zs:List Int}(h:ZF w A n cap K zs){lo hi:Nat}(h1:lo≤hi) (h2:hi≤n):ZF w (if cap=lo then A else A.map (·.add (lo*2))) (hi-lo) (cap-lo) K ((zs.take hi).drop lo):=by
 obtain⟨ms,h3,h4⟩:=h
 refine⟨_,h3.cut h1 h2,fun i=>?_⟩
 by_cases hi':i<hi-lo
 ·have e1:((ms.take hi).drop lo).getD i 0=ms.getD (lo+i) 0:=by
   simp only [List.getD_eq_getElem?_getD,List.getElem?_drop]
   rw [List.getElem?_take,if_pos (by omega)]
  rw [e1];exact h4 _
 ·rw [List.getD_eq_getElem?_getD,List.getElem?_eq_none (by rw [List.length_drop,List.length_take,h3.mlen];omega)];exact Nat.zero_le _
theorem sub_row (i c:Nat):(i+1)*c-i*c=c:=by rw [Nat.succ_mul];omega
def rowl (zs:List Int) (c i:Nat):List Int:=(zs.take ((i+1)*c)).drop (i*c)
theorem ZF.row {w:World}{A:Option Addr}{r c cap K:Nat}{zs:List Int}(h:ZF w A (r*c) cap K zs){i:Nat}(hi:i<r):ZF w (if cap=i*c then A else A.map (·.add (i*c*2))) c (cap-i*c) K (rowl zs c i):=by
 have h1:=h.cut (lo:=i*c) (hi:=(i+1)*c) (Nat.mul_le_mul_right c (by omega)) (Nat.mul_le_mul_right c (by omega))
 rw [sub_row] at h1
 exact h1
theorem rowl_get {r c i j:Nat}{zs:List Int}{X:Mx}(h:En r c X zs) (hi:i<r) (hj:j<c):(rowl zs c i).getD j 0=X i j:=by
 rw [←h i j hi hj]
 unfold rowl
 simp only [List.getD_eq_getElem?_getD,List.getElem?_drop]
 rw [List.getElem?_take,if_pos (by rw [Nat.succ_mul];omega)]
theorem wlW_at {m:Nat}{P:Program}{Q:Exit→Act→World→Prop}{n:Nat}{l:Fr}{w:World}{ol:List Oper}{ops:Array Oper}(k:Nat) (hlo:¬LetsOut Q) (hnd:(ol.take k).all noDf=true)
  (h:wl P ops (Exit.then (fun a w=>wpListIn Fence.wide m P ops Q (ol.drop k) a w) Q) n (ol.take k) l w):wlW m P ops Q n ol l w:=by
 have:=wlW_split (m:=m) (ol.take k) (ol.drop k) hlo hnd h
 rwa [List.take_append_drop] at this
set_option maxHeartbeats 4000000 in
theorem g_mat_Lines1 {w:World}{r c cap K gm lp:Nat}{A:Option Addr}{xs:List Int}{X:Mx}(J:Nat→World→Prop) (hJm:∀k W,J k W→Bk W gm 24 [.int .i64 ((r:Nat):Int),.int .i64 ((c:Nat):Int),.slice A (r*c) cap]∧ZF W A (r*c) cap K xs) (hr:r≤64) (hc:c≤64) (hKB:K≤17179869184) (hX:En r c X xs) (hY:∀(k:Nat) W0 W1 LA lc zs,k<r→J k W0→Ext W0 W1→Lz none K 0 W1 W0.heap.size LA c lc zs→(∀j,j<c→zs.getD j 0=X k j)→YieldAt Fence.wide 8 Tryz.prog lp #[.int .i64 (k:Int),.slice LA c lc] W1 (fun e W'=>e= .returned (.bool true)∧J (k+1) W')) (h0:J 0 w):
    Calls Tryz.prog 64 #[.func (.yield lp) #[] #[],.pointer (some ⟨gm,0,none⟩)] w (fun e w'=>(∃v,e= .returned v)∧J r w'):=by
 obtain⟨hbm0,hzf0⟩:=hJm 0 w h0
 have hrc:=ix_64 hr hc
 refine sx_enter Tryz.func64 rfl (n:=27) rfl (bq rfl) (args:= [.func (.yield lp) #[] #[],.pointer (some ⟨gm,0,none⟩)]) ?_
 have hlt_gm:=hbm0.lt
 refine cw_keep [(0,.func (.yield lp) #[] #[]),(1,.pointer (some ⟨gm,0,none⟩))] ⟨rfl,rfl,trivial⟩ (sr (pf gm 0 rfl (by kernel_rfl) (wl_load rfl rfl (load_cell cellInt hbm0 rfl) (by decide) (mv 1 rfl (ne_ (cw_block ?_))))))
 refine cw_loop (T:=World×Nat) (fun⟨wr,i⟩=> [(0,.func (.yield lp) #[] #[]),(1,.pointer (some ⟨gm,0,none⟩)),(4,.pointer (some ⟨gm,0,none⟩)),(5,.int .i64 ((r:Nat):Int)),(6,.int .i64 ((i:Nat):Int))]) (fun⟨wr,i⟩=>wr) (fun⟨wr,i⟩=>(True)∧(i≤r)∧(J i wr)) (fun⟨wr,i⟩=>r-i)
  (⟨w,0⟩:World×Nat) ⟨trivial,(by omega),h0⟩ rfl ⟨rfl,rfl,rfl,rfl,rfl,trivial⟩ ?_
 rintro⟨wr,i⟩ ⟨hw1,hi_i,hJ⟩
 refine cw_re [(0,.func (.yield lp) #[] #[]),(1,.pointer (some ⟨gm,0,none⟩)),(4,.pointer (some ⟨gm,0,none⟩)),(5,.int .i64 ((r:Nat):Int)),(6,.int .i64 ((i:Nat):Int))] wr rfl ⟨rfl,rfl,rfl,rfl,rfl,trivial⟩ ?_
 obtain⟨hbm,hzf⟩:=hJm i wr hJ
 refine cw_seq ?_
 by_cases hir:i<r
 · 
  refine cw_region (wl_cmp rfl rfl rfl true (cb_lt_t (a:=i) (b:=r) rfl rfl (by omega)) (by decide) (ne_ (cw_seq (cw_true rfl (cw_skip (eo_then (cw_seq (cw_block (sr (mv 2 rfl (ne_ (cw_seq ?_))))))))))))
  have hx1:=ix_64 (show i≤64 by omega) hc
  have hx2:=ix_64 (show i+1≤64 by omega) hc
  have hx3:=Nat.mul_le_mul_right c (show i+1≤r by omega)
  have hx4:i*c≤(i+1)*c:=Nat.mul_le_mul_right c (by omega)
  obtain⟨ms9,hl9,hm9⟩:=hzf
  have hcap:=hl9.le
  have hzf:ZF wr A (r*c) cap K xs:=⟨ms9,hl9,hm9⟩
  refine cw_regionW 9 (wlW_at 15 (fun⟨_,_,h⟩=>by obtain⟨⟨_,hv⟩,_⟩:=h;cases hv) rfl (mv 2 rfl (pf gm 2 rfl (by kernel_rfl) (wl_load rfl rfl (load_cell cellInts hbm rfl) (by decide) (mv 1 rfl (pf gm 1 rfl (by kernel_rfl) (wl_load rfl rfl (load_cell cellInt hbm rfl) (by decide) (wl_ar rfl rfl rfl ((i*c:Nat):Int) (ai_mul (a:=i) (b:=c) rfl rfl (by omega)) (by decide) (mv 1 rfl (wl_ar rfl rfl rfl ((i+1:Nat):Int) (ai_add (a:=i) (b:=1) rfl rfl (by omega)) (by decide) (pf gm 1 rfl (by kernel_rfl) (wl_load rfl rfl (load_cell cellInt hbm rfl) (by decide) (wl_ar rfl rfl rfl (((i+1)*c:Nat):Int) (ai_mul (a:=i+1) (b:=c) rfl rfl (by omega)) (by decide) ?_)))))))))))))
  refine wl_slice rfl rfl elemI aggInt.size (lo:=i*c) (hi:=(i+1)*c) rfl rfl (by omega) (by omega) (v:= .slice (if cap=i*c then A else A.map (·.add (i*c*2))) c (cap-i*c)) (by rw [sub_row]) (by decide) (wl_call rfl rfl (vs:= [.slice (if cap=i*c then A else A.map (·.add (i*c*2))) c (cap-i*c),.func (.func 46) #[] #[]]) (by kernel_rfl) (by decide) (g_mat_each (b:=0) (lb:=wr.heap.size) (Nat.zero_le _) (Nat.le_refl _) (hzf.row hir) (by omega) hKB) ?_)
  rintro _ v1 ⟨x1,rfl,⟨LA,lc,rfl,lz⟩,e1⟩
  refine ret_intro (wl_nil (eo_thenL (wlW_yield [.int .i64 ((i:Nat):Int),.slice LA c lc] rfl rfl (by decide) (hY i wr v1 LA lc _ hir hJ e1 lz (fun j hj=>rowl_get hX hir hj)) ?_)))
  rintro _ v2 ⟨rfl,hJ2⟩
  refine ret_intro (wlW_wl (fun⟨_,_,h⟩=>by obtain⟨⟨_,hv⟩,_⟩:=h;cases hv) rfl (pu (v:= .bool false) rfl (by kernel_rfl) (ne_ (cw_false rfl (cw_skip (eo_block_normal (eo_then (cw_region (wl_ar rfl rfl rfl ((i+1:Nat):Int) (ai_add (a:=i) (b:=1) rfl rfl (by omega)) (by decide) (mv 1 rfl (wl_nil (eo_round (⟨v2,i+1⟩:World×Nat) ⟨trivial,(by omega),hJ2⟩ (show r-(i+1)<r-i by omega) rfl ⟨rfl,rfl,rfl,rfl,rfl,trivial⟩))))))))))))
 · 
  refine cw_region (wl_cmp rfl rfl rfl false (cb_lt_f (a:=i) (b:=r) rfl rfl (by omega)) (by decide) (ne_ (cw_seq (cw_false rfl (cw_exit (eo_thenX (eo_loopX (eo_block_here (eo_end [] rfl trivial ?_)))))))))
  exact⟨⟨_,rfl⟩,(show i=r by omega)▸hJ⟩
set_option maxHeartbeats 4000000 in
theorem g_mat_Lines {w:World}{r c K:Nat}{Aa:Option Addr}{na capa:Nat}{xs:List Int}(hxa:ZF w Aa na capa K xs) (hr:r≤64) (hc:c≤64) (hna:na=r*c) (hKB:K≤17179869184):
    Calls Tryz.prog 49 #[.agg #[.int .i64 ((r:Nat):Int),.int .i64 ((c:Nat):Int),.slice Aa na capa]] w (Gv w (fun v w'=>∃gm A cap,v= .func (.func 64) #[] #[.pointer (some ⟨gm,0,none⟩)]∧w.heap.size≤gm∧Bk w' gm 24 [.int .i64 (r:Int),.int .i64 (c:Int),.slice A na cap]∧Lz none K 0 w' w.heap.size A na cap xs)):=by
 have hlb:w.heap.size≤w.heap.size:=Nat.le_refl _
 have hxa0:=hxa
 obtain⟨msa,hla,hma⟩:=hxa
 refine sx_enter Tryz.func49 rfl (n:=11) rfl (bq rfl) (args:= [.agg #[.int .i64 ((r:Nat):Int),.int .i64 ((c:Nat):Int),.slice Aa na capa]]) (cw_keep [(0,.agg #[.int .i64 ((r:Nat):Int),.int .i64 ((c:Nat):Int),.slice Aa na capa])] ⟨rfl,trivial⟩ (sr (bx [.int .i64 ((r:Nat):Int),.int .i64 ((c:Nat):Int),.slice Aa na capa] (Ext.refl w) rfl rfl rfl fun g1 v2 hb4 ge5 e3 hw1=>(mv 1 rfl (ne_ (sr (lo aggMat hb4 [.int .i64 ((r:Nat):Int),.int .i64 ((c:Nat):Int),.slice Aa na capa] rfl rfl rfl ?_)))))))
 obtain⟨lb6,hlb6,hlelb6,hgl6,hq6_0⟩:∃lb,lb≤v2.heap.size∧v2.heap.size≤lb∧w.heap.size≤lb∧g1<lb:=⟨v2.heap.size,Nat.le_refl _,Nat.le_refl _,hw1.size,hb4.lt⟩
 refine cl (vs:= [.agg #[.int .i64 ((r:Nat):Int),.int .i64 ((c:Nat):Int),.slice Aa na capa]]) hw1 (g_mat_Least hw1.size hlb6 (hxa0.ext hw1) hr hc hna hKB) rfl (by kernel_rfl) fun xr9 v7 r9 e8 hw2=>?_
 obtain⟨_,_,rfl,⟨lv11,rfl,⟨LA12,lc12,rfl,lz12⟩⟩,r10_1⟩:=r9
 have blk13:=lz12.block
 obtain rfl:=r10_1
 refine mv 1 rfl (pu (v:= .agg #[.int .i64 ((r:Nat):Int),.int .i64 ((c:Nat):Int),.slice LA12 na lc12]) rfl (by kernel_rfl) (pu (v:= .int .i64 0) rfl (by kernel_rfl) (wl_alloc rfl (z:= .agg #[I0,I0,S0]) (vs:= [I0,I0,S0]) (fun _=>by kernel_rfl) rfl (by decide) fun g14 v15 nb=>?_)))
 have hb17:=nb.bk
 have ge18:w.heap.size≤g14:=by rw [←nb.at_];exact hw2.size
 have q19:g1<g14:=by rw [←nb.at_];exact (hb4.ext e8).lt
 have ne20:∀p:Addr,LA12=some p→p.block≠g14:=fun p hp=>by have:=(lz12).block p hp;have:=nb.at_;omega
 have e16:=nb.ext
 clear nb
 have hw3:=hw2.trans e16
 refine so aggMat hb17 [.int .i64 ((r:Nat):Int),.int .i64 ((c:Nat):Int),.slice LA12 na lc12] hw3 ge18 rfl rfl rfl rfl fun v21 hb23 u24 hw4=>(mv 1 rfl (ne_ (sr (pu (v:= .func (.func 64) #[] #[.pointer (some ⟨g14,0,none⟩)]) rfl (by kernel_rfl) (mv 1 rfl (ne_ (cw_ret (eo_ret [.func (.func 64) #[] #[.pointer (some ⟨g14,0,none⟩)]] rfl ⟨rfl,trivial⟩ ?_))))))))
 exact⟨_,rfl,⟨g14,LA12,lc12,rfl,ge18,hb23,(((lz12.ext e16).updT hb17 u24 ne20)).mono (Nat.le_refl _) (Nat.zero_le _) hgl6⟩,hw4⟩
theorem below_put {m l:Nat}(h:m≤l) (W:World) (hl:l<W.heap.size) (o:Obj):Below m W (W.putObj l o):=(Below.refl m W).grown (grownBy_putObj' W l o) (by omega) (fun k e=>by cases e;exact h)
section
variable {Q:Exit→Act→World→Prop}{n:Nat}{l:Fr}{w:World}
theorem cw_lines {g:Operand}{ps:Array Tmp}{assign body:Code}{r c cap K gm p0 p1:Nat}{A:Option Addr}{xs:List Int}{X:Mx}
  (hg:evo l g=some (.func (.func 64) #[] #[.pointer (some ⟨gm,0,none⟩)])) (hps:ps= #[p0,p1]) (hp0:p0<n) (hp1:p1<n) (hr:r≤64) (hc:c≤64) (hKB:K≤17179869184) (hX:En r c X xs)
  (I:Nat→Nat→World→Prop) (hIm:∀k b W,I k b W→Bk W gm 24 [.int .i64 (r:Int),.int .i64 (c:Int),.slice A (r*c) cap]∧ZF W A (r*c) cap K xs)
  (hIx:∀k b V W,I k b V→Ext V W→I k b W) (hIb:∀k b W,I k b W→I k W.heap.size W) (hIn:∀k b V W,I k b V→Nc V W→Below w.heap.size V W→I k b W) (h0:I 0 w.heap.size w) (l2:Value→Value→Fr)
  (hassign:∀(lp:Nat) (v0 v1:Value) (Kp:Act→World→Prop) (W:World),(∀a,Rp n (l2 v0 v1) a→Kp a W)→ci (Fence.wide.inRound lp) 8 Tryz.prog (Exit.then Kp (fun _ _ _=>False)) n assign ((p1,v1)::(p0,v0)::l) W)
  (hbody:∀(lp k b:Nat) (W:World) (LA:Option Addr) (lc:Nat) (zs:List Int) (Q':Exit→Act→World→Prop),k<r→I k b W→b≤W.heap.size→Lz none K 0 W b LA c lc zs→(∀j,j<c→zs.getD j 0=X k j)→¬LetsOut Q'→
   (∀a W',KeepsFrom w.heap.size W W'→I (k+1) W'.heap.size W'→Q' .normal a W')→ci (Fence.wide.inRound lp) 8 Tryz.prog Q' n body (l2 (.int .i64 (k:Int)) (.slice LA c lc)) W)
  (hdone:∀(D b:Nat) (W:World),w.heap.size≤D→I r b W→W.heap[D]?=some (.deferred (some []))→∀a,Rp n l a→Q .normal {a with defers:= [{target:= .collected D,args:= #[]}]} W):
  cw Tryz.prog Q n (.rangeFunc g ps assign body) l w:=by
 subst hps
 intro a ha
 refine (wpIn_wide (n:=9)).1 (wpIn_rangeFunc (fun fn hfn=>?_))
 obtain⟨rec,hrec⟩:∃rec:LoopState→Option Code→Loop,rec=fun st pe=>{state:=st,pending:=pe,fn,tmps:=a.tmps,params:= #[p0,p1],assign,body,defers:=w.heap.size}:=⟨_,rfl⟩
 obtain⟨W1,hW1⟩:∃W1,(w.alloc (.deferred (some []))).alloc (.loop (rec .ready none))=W1:=⟨_,rfl⟩
 have hL1:W1.heap[w.heap.size+1]?=some (.loop (rec .ready none)):=by
  rw [←hW1];have:=World.alloc_heap_new (w.alloc (.deferred (some []))) (.loop (rec .ready none));rwa [World.size_alloc] at this
 have hK1:W1.heap[w.heap.size]?=some (.deferred (some [])):=by
  rw [←hW1];exact (Below.heap_alloc _ _ _ (by simp)).trans (World.alloc_heap_new w _)
 have hE1:Ext w W1:=by rw [←hW1];exact ((Ext.refl w).alloc _).alloc _
 refine⟨w.heap.size+1,[{target:= .collected w.heap.size,args:= #[]}],W1,{target:= .fn (.func 64) #[.pointer (some ⟨gm,0,none⟩)],args:= #[.func (.yield (w.heap.size+1)) #[] #[]]},W1,64,
  #[.func (.yield (w.heap.size+1)) #[] #[],.pointer (some ⟨gm,0,none⟩)],W1,?_,?_,fun _ _=>trivial,?_,fun h=>(by cases h),?_⟩
 ·rw [←hW1,hrec];exact run_enterLoop_outer _ _ _ _ _
 ·simp only [resolve,ha.ev hg]
  simp [go_sem]
 ·have:=enters_of Tryz.func64 (by kernel_rfl) rfl #[.func (.yield (w.heap.size+1)) #[] #[],.pointer (some ⟨gm,0,none⟩)] W1
  simp [invoke,this]
 ·refine callsIn_wide.2 ((g_mat_Lines1 (w:=W1) (fun k W=>(∃b,I k b W)∧W.heap[w.heap.size+1]?=some (.loop (rec .ready none))∧W.heap[w.heap.size]?=some (.deferred (some []))) (fun k W hJ=>by obtain⟨⟨b,h⟩,_⟩:=hJ;exact hIm k b W h) hr hc hKB hX ?_ ⟨⟨_,hIx _ _ _ _ h0 hE1⟩,hL1,hK1⟩).mono ?_)
  ·intro k W0 W2 LA lc zs hk hJ e hz hent
   obtain⟨⟨b,hI⟩,hl,hd⟩:=hJ
   have hl2:=e.heap hl
   have hd2:=e.heap hd
   have hlt:w.heap.size+1<W2.heap.size:=(Array.getElem?_eq_some_iff.1 hl2).1
   have hy:=run_yield (P:=Tryz.prog) (args:= #[.int .i64 (k:Int),.slice LA c lc]) hl2 (by rw [hrec];rfl)
   rw [hrec] at hy
   refine⟨fn,_,assign,body,hy,roundIn_of_wpIn hfn ?_⟩
   have hact:({tmps:=((#[p0,p1]:Array Tmp).zip #[.int .i64 (k:Int),.slice LA c lc]).foldl (fun tmps (t,a)=>tmps.setIfInBounds t a) a.tmps,defers:= []}:Act)=(a.put (some p0) (.int .i64 (k:Int))).put (some p1) (.slice LA c lc):=by
    simp [Act.put,ha.nod]
   rw [hact]
   refine hassign (w.heap.size+1) _ _ _ W2 (fun a1 ha1=>?_) _ ((ha.put hp0 _).put hp1 _)
   have hlk:W2.heap[w.heap.size+1]?=some (.loop (rec .ready none)):=hl2
   refine⟨_,run_beginRound hlk (by rw [hrec]),?_⟩
   have hl3:(W2.putObj (w.heap.size+1) (.loop {rec .ready none with state:= .busy})).heap[w.heap.size+1]?=some (.loop {rec .ready none with state:= .busy}):=World.putObj_heap_same hlt
   have hd3:(W2.putObj (w.heap.size+1) (.loop {rec .ready none with state:= .busy})).heap[w.heap.size]?=some (.deferred (some [])):=(World.putObj_heap_other (by omega)).trans hd2
   have hnc:Nc W2 (W2.putObj (w.heap.size+1) (.loop {rec .ready none with state:= .busy})):=Nc.put _ hl2 rfl
   refine hbody (w.heap.size+1) k W0.heap.size _ LA lc zs _ hk (hIn _ _ _ _ (hIx _ _ _ _ (hIb _ _ _ hI) e) hnc (below_put (by omega) _ hlt _)) (Nat.le_trans e.size hnc.size) (hz.nc hnc) hent (fun⟨_,_,h⟩=>h) (fun a3 W3 hkf hI3=>?_) _ ha1
   have hl4:=hkf.same _ _ (by omega) hl3 rfl
   have hd4:=hkf.same _ _ (Nat.le_refl _) hd3 rfl
   have hr4:=run_endRound (P:=Tryz.prog) none hl4
   refine⟨_,_,hr4,rfl,⟨_,hIn _ _ _ _ hI3 (Nc.put _ hl4 rfl) (below_put (by omega) _ (Array.getElem?_eq_some_iff.1 hl4).1 _)⟩,?_,(World.putObj_heap_other (by omega)).trans hd4⟩
   rw [World.putObj_heap_same (Array.getElem?_eq_some_iff.1 hl4).1,hrec];rfl
  ·rintro e W2 ⟨⟨v,rfl⟩,⟨b,hI⟩,hl,hd⟩
   have hr2:=run_endLoop (P:=Tryz.prog) hl (by rw [hrec];simp)
   have hr3:(Instr.endLoop (w.heap.size+1)).run Tryz.prog W2= .ok none (W2.putObj (w.heap.size+1) (.loop {rec .ready none with state:= .exhausted})):=by
    rw [hr2,hrec]
   refine⟨none,_,hr3,?_⟩
   have:=hdone w.heap.size b _ (Nat.le_refl _) (hIn _ _ _ _ hI (Nc.put (.loop {rec .ready none with state:= .exhausted}) hl rfl) (below_put (by omega) _ (Array.getElem?_eq_some_iff.1 hl).1 _)) ((World.putObj_heap_other (by omega)).trans hd) a ha
   show Q .normal {a with defers:= [{target:= .collected w.heap.size,args:= #[]}]++a.defers} _
   rw [ha.nod]
   rw [hrec] at this⊢
   exact this
end
theorem sx_enterM {n:Nat}{w:World}{f:FuncId}{fn:Func}{c:Code}{args:List Value}{R:Ending→World→Prop}(hf:Tryz.prog.funcs[f]?=some fn) (hb:fn.body=some c) (hn:fn.ntmps=n) (hle:args.length≤n)
  (h:cw Tryz.prog (bodyPostM Fence.wide 9 Tryz.prog fn R) n c (argFr args 0) w):Calls Tryz.prog f args.toArray w R:=by
 refine (callsIn_wide (n:=9)).1 (callsIn_of_wp_marks hf hb trivial (wpIn_wide.2 (h _ ⟨?_,rfl,fun i v hi=>?_⟩)))
 ·simp [hn];omega
 ·obtain⟨_,h2⟩:=look_argFr args 0 i v hi
  rw [Nat.sub_zero] at h2
  have hlt:i<args.length:=(List.getElem?_eq_some_iff.1 h2).1
  simp only [Array.getD_eq_getD_getElem?]
  rw [Array.getElem?_append_left (by simpa using hlt)]
  simp [h2]
section
variable (E:World→World→Prop)
end
section
variable {E:World→World→Prop}{F:Fence}{mm:Nat}{P:Program}{Q:Exit→Act→World→Prop}{n:Nat}{ol:List Oper}{m:Nat}{Rs:List (Value→World→Prop)}{l:Fr}{w0:World}{dss rl:List (List Nat)}
end
section
variable {B:Nat}{w w':World}
theorem Kf.of {row:Option Nat}(hg:w.grownBy w' row) (h:∀j,row=some j→∃o,w.heap[j]?=some o∧o.isCells=true):KeepsFrom B w w':=
 ⟨hg.size,fun k o _ hk ho=>(hg.block k (Array.getElem?_eq_some_iff.1 hk).1 (fun e=>by
  obtain⟨o',h1,h2⟩:=h k e.symm
  rw [hk] at h1;cases h1;rw [ho] at h2;cases h2)).trans hk⟩
theorem Ext.kf (e:Ext w w'):KeepsFrom B w w':=⟨e.size,fun _ _ _ hk _=>e.heap hk⟩
theorem Upd.kf {g:Nat}{t:TypeId}{vs:List Value}(u:Upd g w w') (hb:Bk w g t vs):KeepsFrom B w w':=Kf.of u.by_ (fun j e=>by cases e;exact⟨_,hb,rfl⟩)
theorem UpdO.kf {A:Option Addr}{lb:Nat}{t:TypeId}{s n c:Nat}{vs:List Value}(u:UpdO A w w') (ho:Own w lb t s A n c vs):KeepsFrom B w w':=Kf.of u.by_ (fun j e=>by
 rcases ho with⟨h,_⟩ | ⟨g,cs,rfl,_,hk,_⟩
 ·rw [h] at e;cases e
 ·cases e;exact⟨_,hk,rfl⟩)
end
def dfd (d:List Deferred) (a:Act):Act:={a with defers:=a.defers++d}
theorem dfd_put (d:List Deferred) (a:Act) (t:Option Tmp) (v:Value):dfd d (a.put t v)=(dfd d a).put t v:=by cases t <;> rfl
theorem dfd_eval (d:List Deferred) (a:Act):(dfd d a).eval=a.eval:=by funext x;cases x <;> rfl
section
variable {F:Fence}{m:Nat}{P:Program}{Q:Exit→Act→World→Prop}
theorem oper_df (d:List Deferred){o:Oper}{a:Act}{w:World}{K K':Act→World→Prop}(hK:∀a w,K a w→K' (dfd d a) w) (h:o.wpIn F m P a w K (fun e a w=>Q e (dfd d a) w)):o.wpIn F m P (dfd d a) w K' Q:=by
 obtain⟨h1,h2⟩:=h
 refine⟨by rw [dfd_eval];exact h1,?_⟩
 rw [dfd_eval]
 have hp:∀v,K' ((dfd d a).put o.dst v)=K' (dfd d (a.put o.dst v)):=fun v=>by rw [dfd_put]
 generalize (o.semAt F.round a.eval).run P w=r at h2
 cases r with
 | ok x w'=>
  cases x with
  | value v=>show K' _ _;rw [hp];exact hK _ _ h2
  | skip=>show K' _ _;rw [hp];exact hK _ _ h2
  | defer e=>
   have h3:K' (dfd d ({a with defers:=e::a.defers}.put o.dst undef)) w':=hK _ _ h2
   rw [dfd_put] at h3
   exact h3
  | enter f args=>
   refine⟨h2.1,h2.2.mono fun e w'' h3=>?_⟩
   cases e with
   | returned v=>show K' _ _;rw [hp];exact hK _ _ h3
   | panicked c=>exact h3
   | outgrown=>obtain⟨a',w3,h4⟩:=h3;exact⟨_,_,h4⟩
  | row s args=>exact⟨h2.1,RowsIn.mono h2.2 fun v w'' h3=>by show K' _ _;rw [hp];exact hK _ _ h3⟩
  | round lp f t asg bd=>
   refine⟨h2.1,h2.2.mono fun e w'' h3=>?_⟩
   cases e with
   | returned v=>show K' _ _;rw [hp];exact hK _ _ h3
   | panicked c=>exact h3
   | outgrown=>obtain⟨a',w3,h4⟩:=h3;exact⟨_,_,h4⟩
  | _=>exact h2
 | halt x w'=>
  cases x with
  | panic v=>exact h2
  | _=>exact h2
theorem list_df (d:List Deferred){ops:Array Oper}:∀(rest:List Oper) (a:Act) (w:World),wpListIn F m P ops (fun e a w=>Q e (dfd d a) w) rest a w→wpListIn F m P ops Q rest (dfd d a) w
 | [],a,w,h=>h
 | o::rest,a,w,h=>by
  unfold wpListIn at h⊢
  have e1:yielded ops (dfd d a).tmps=yielded ops a.tmps:=rfl
  rw [e1]
  split
  ·next hw=>
   rw [if_pos hw] at h
   exact oper_df d (fun a w h=>list_df d rest a w h) h
  ·next hw=>
   rw [if_neg hw] at h
   refine⟨by rw [dfd_eval];exact h.1,?_⟩
   have:=list_df d rest _ w h.2
   rw [dfd_put] at this
   exact this
end
section
variable {P:Program}
theorem run_appC {t ty e:TypeId}{z:Value}{s bytes:Nat}(ht:P.underlying t=some (.slice e)) (hinfo:(P.info? e).map (fun i=>(i.zero,i.size,i.bytes))=some (some z,s,bytes)) (hzs:z.cells.size=s) (hsz:0<s) (hby:bytes≤64)
  {w:World}{base:Nat}{A:Option Addr}{n cap:Nat}{xs:List Value}(hown:Own w base e s A n cap xs) (hb:base≤w.heap.size){a:Addr}{m c:Nat}{news:List Value}(hl:news.length=m*s) (hnews:∀j u,news[j]?=some u→w.cell? (a.add j)=some u)
  (h1:news.all (·.oneCell')=true) (hm:n+m≤1099511627776):
  ∃A' cap' w',(Builtin.append_ #[t,t] ty #[.slice A n cap,.slice (some a) m c]).run P w= .ok (.slice A' (n+m) cap') w'∧Own w' base e s A' (n+m) cap' (xs++news)∧((A'=A∧cap'=cap∧UpdO A w w')∨(Ext w w'∧∀a',A'=some a'→w.heap.size≤a'.block)):=by
 obtain⟨i,hi,hz,hz1,hz2⟩:=info_parts hinfo
 have h1':∀u∈news,u.oneCell'=true:=by simpa [List.all_eq_true] using h1
 have h63:n+m≤maxLen:=by rw [len_maxLen];omega
 have hbytes:(n+m)*bytes≤140737488355328:=by
  have:(n+m)*bytes≤1099511627776*64:=Nat.mul_le_mul hm hby
  omega
 rcases hown with⟨rfl,rfl,rfl,rfl⟩ | ⟨g,cs,rfl,hg,hk,hn,hcm,hcl,hv⟩
 ·obtain⟨v',w',hr,h2,h3,_⟩:=run_append_own (P:=P) w w.heap.size t ty e i z s bytes ht hi hz hz1 hz2 hzs hsz (.slice none 0 0) 0 [] (World.ownsRow_nil w _ e s) a m c news hl hnews h1' h63 hbytes (Nat.le_refl _)
  obtain⟨A',cap',rfl,ho⟩:=Own.of_row h2
  exact⟨A',cap',w',hr,ho.mono hb,Or.inr ⟨Ext.of_grown h3,fun a' ha=>(ho.block a' ha).1⟩⟩
 ·by_cases hroom:n+m≤cap
  ·have hfit:n*s+news.length≤cs.length:=by rw [hl,hcl,←Nat.add_mul];exact Nat.mul_le_mul_right s hroom
   obtain⟨w',hst,hb2,hu,hs⟩:=store_cells (P:=P) news 0 (n*s) w cs hk (by omega) h1'
   rw [Nat.add_zero] at hb2
   have hfc:=run_firstCells_some (P:=P) w i.size m a m c news (by rw [hz1];exact hl) hnews
   rw [hz1] at hfc
   refine⟨some ⟨g,0,none⟩,cap,w',?_,Or.inr ⟨g,_,rfl,hg,hb2,hroom,hcm,?_,?_⟩,Or.inl ⟨rfl,rfl,hu.updO⟩⟩
   ·simp [Builtin.append_,run_underlying ht,sizeOf,typeInfo,hi,Builtin.lenOf,hroom,hfc,Addr.add_lit,hz1,hst]
   ·unfold overl
    simp only [List.length_append,List.length_take,List.length_drop]
    omega
   ·rw [Nat.add_mul,←hl]
    exact overl_take hv (by omega)
  ·have hx:=hv
   obtain⟨v',w',hr,h2,h3⟩:=run_append_arg_grows (P:=P) w t ty e i z s bytes ht hi hz hz1 hz2 hzs hsz ⟨g,0,none⟩ n cap xs
    (by rw [←hv,List.length_take];have:=Nat.mul_le_mul_right s hn;omega)
    (fun j u hj=>by
     have hjl:=(List.getElem?_eq_some_iff.1 hj).1
     rw [add_lit0,Nat.zero_add,hk.cell (by rw [←hv,List.length_take] at hjl;omega)]
     rw [←hv,List.getElem?_take] at hj
     split at hj
     ·rw [List.getD_eq_getElem?_getD,hj];rfl
     ·cases hj) a m c news hl hnews (by omega) h63 hbytes
   obtain⟨A',cap',rfl,ho⟩:=Own.of_row h2
   exact⟨A',cap',w',hr,ho.mono hb,Or.inr ⟨Ext.of_grown h3,fun a' ha=>(ho.block a' ha).1⟩⟩
variable {Q:Exit→Act→World→Prop}{n:Nat}{l:Fr}{w:World}{ops:Array Oper}{rest:List Oper}{d:Nat}{ty:TypeId}{pos:String}{af:Array Edge}{gd:Option (Nat×Bool)}
theorem wl_appC {x y:Operand}{t e:TypeId}{z:Value}{s bytes k m c cap base:Nat}{A:Option Addr}{a:Addr}{xs:List Value}(hw:guardB ops l gd=some true) (hx:evo l x=some (.slice A k cap)) (hy:evo l y=some (.slice (some a) m c))
  (ht:P.underlying t=some (.slice e)) (hinfo:(P.info? e).map (fun i=>(i.zero,i.size,i.bytes))=some (some z,s,bytes)) (hzs:z.cells.size=s) (hsz:0<s) (hby:bytes≤64)
  (hown:Own w base e s A k cap xs) (hb:base≤w.heap.size) (news:List Value) (hl:news.length=m*s) (hnews:∀j u,news[j]?=some u→w.cell? (a.add j)=some u)
  (h1:news.all (·.oneCell')=true) (hm:k+m≤1099511627776) (hn:d<n)
  (h:∀A' cap' w',Own w' base e s A' (k+m) cap' (xs++news)→((A'=A∧cap'=cap∧UpdO A w w')∨(Ext w w'∧∀a',A'=some a'→w.heap.size≤a'.block))→wl P ops Q n rest ((d,.slice A' (k+m) cap')::l) w'):
  wl P ops Q n (⟨some d,.call {callee:= .builtin .append,args:= #[x,y],argTypes:= #[t,t]},ty,pos,af,gd⟩::rest) l w:=by
 obtain⟨A',cap',w',hr,h2,h3⟩:=run_appC (P:=P) (ty:=ty) ht hinfo hzs hsz hby hown hb hl hnews h1 hm
 refine wl_val hw hn (fun a' ha=>?_) (h A' cap' w' h2 h3)
 unfold execOp
 simp only [resolve,invoke,builtin,Sem.run_bind,Sem.run_pure,Result.andThen_ok,List.map_toArray,List.map_cons,List.map_nil,ha.ev hx,ha.ev hy]
 rw [hr]
 rfl
end
def ApR (L:Nat) (T:TypeId) (A:Option Addr) (k cap:Nat) (xs:List Value) (v:Value) (B:Nat):Value→World→Prop:=fun r w=>
 ∃A' cap',r= .slice A' (k+1) cap'∧Own w L T 1 A' (k+1) cap' (xs++ [v])∧((A'=A∧cap'=cap)∨∀p,A'=some p→B≤p.block)
section
variable {L:Nat}{T:TypeId}{A:Option Addr}{k cap:Nat}{xs:List Value}{v:Value}{a b:World}
theorem ApR.kept {B:Nat}{A':Option Addr}{cap':Nat}(h2:(A'=A∧cap'=cap)∨∀p,A'=some p→B≤p.block){g:Nat}(hg:g<B) (hA:∀p,A=some p→p.block≠g):∀p,A'=some p→p.block≠g:=by
 rcases h2 with⟨rfl,rfl⟩ | h2
 ·exact hA
 ·intro p hp;have:=h2 p hp;omega
end
theorem szRows:∀w,(sizeOf 54).run Tryz.prog w= .ok 1 w:=fun _=>by kernel_rfl
section
variable {w0:World}{n K L M gf gp gm:Nat}{sl:Bool}{Al:Option Addr}{nl cl:Nat}{Am:Option Addr}{capm:Nat}{xs:List Int}{W W':World}
end
theorem Rcs.low {K lb lb' n m:Nat}{ra:Nat→Option Addr}{rc:Nat→Nat}{w:World}{Z:Mx}(h:Rcs K lb n m ra rc w Z) (hl:lb'≤lb):Rcs K lb' n m ra rc w Z:=⟨fun r hr=>by obtain⟨zs,h1,h2⟩:=h.row r hr;exact⟨zs,h1.mono (Nat.le_refl _) (Nat.le_refl _) hl,h2⟩,h.dis⟩
theorem rows_succ {k n lc:Nat}{ra:Nat→Option Addr}{rc:Nat→Nat}{LA:Option Addr}:(List.range k).map (rwv ra rc n)++ [.slice LA n lc]=(List.range (k+1)).map (rwv (fun r=>if r=k then LA else ra r) (fun r=>if r=k then lc else rc r) n):=by
 rw [List.range_succ,List.map_append]
 congr 1
 ·refine List.map_congr_left fun r hr=>?_
  have:=List.mem_range.1 hr
  unfold rwv
  simp only [if_neg (show¬r=k by omega)]
 ·simp [rwv]
set_option maxHeartbeats 4000000 in
theorem g_stp_in {w:World}{i:Int}{n:Nat}:
    Calls Tryz.prog 138 #[.int .i64 i,.int .i64 ((n:Nat):Int)] w (Gv w (Is (.bool (decide (insd n i))))):=by
 refine sx_enter Tryz.func138 rfl (n:=12) rfl (bq rfl) (args:= [.int .i64 i,.int .i64 ((n:Nat):Int)]) (cw_keep [(0,.int .i64 i),(1,.int .i64 ((n:Nat):Int))] ⟨rfl,rfl,trivial⟩ (sr (mv 1 rfl (ne_ (cw_seq ?_)))))
 by_cases h0:0≤i
 · 
  by_cases h1:i<((n:Nat):Int)
  · 
   refine cw_region (mv 1 rfl (wl_cmp rfl rfl rfl true (ci_ge_t h0) (by decide) (mv 3 rfl (wl_cmp rfl rfl rfl true (ci_lt_t h1) (by decide) (pu (v:= .bool true) rfl (by kernel_rfl) (mv 1 rfl (ne_ (cw_ret (eo_ret [.bool true] rfl ⟨rfl,trivial⟩ ?_)))))))))
   exact⟨_,rfl,(congrArg Value.bool (decide_eq_true (p:=insd n i) ⟨h0,h1⟩).symm),(Ext.refl w)⟩
  · 
   refine cw_region (mv 1 rfl (wl_cmp rfl rfl rfl true (ci_ge_t h0) (by decide) (mv 3 rfl (wl_cmp rfl rfl rfl false (ci_lt_f h1) (by decide) (pu (v:= .bool false) rfl (by kernel_rfl) (mv 1 rfl (ne_ (cw_ret (eo_ret [F0] rfl ⟨rfl,trivial⟩ ?_)))))))))
   exact⟨_,rfl,(congrArg Value.bool (decide_eq_false (p:=insd n i) (fun h=>by simp only [insd] at h;omega)).symm),(Ext.refl w)⟩
 · 
  refine cw_region (mv 1 rfl (wl_cmp rfl rfl rfl false (ci_ge_f h0) (by decide) (mv 4 rfl (pu (v:= .bool false) rfl (by kernel_rfl) (mv 1 rfl (ne_ (cw_ret (eo_ret [F0] rfl ⟨rfl,trivial⟩ ?_))))))))
  exact⟨_,rfl,(congrArg Value.bool (decide_eq_false (p:=insd n i) (fun h=>by simp only [insd] at h;omega)).symm),(Ext.refl w)⟩
set_option maxHeartbeats 4000000 in
theorem g_stp_fits_swap {w:World}{i j:Int}{n:Nat}:
    Calls Tryz.prog 135 #[.agg #[.int .i64 i,.int .i64 j],.int .i64 ((n:Nat):Int)] w (Gv w (Is (.bool (decide (insd n i∧insd n j))))):=by
 refine sx_enter Tryz.func135 rfl (n:=15) rfl (bq rfl) (args:= [.agg #[.int .i64 i,.int .i64 j],.int .i64 ((n:Nat):Int)]) (cw_keep [(0,.agg #[.int .i64 i,.int .i64 j]),(1,.int .i64 ((n:Nat):Int))] ⟨rfl,rfl,trivial⟩ (sr (bx [.int .i64 i,.int .i64 j] (Ext.refl w) rfl rfl rfl fun g1 v2 hb4 ge5 e3 hw1=>(mv 1 rfl (ne_ (cw_seq ?_))))))
 by_cases hi:insd n i
 · 
  by_cases hj:insd n j
  · 
   refine cw_region (pf g1 0 rfl (by kernel_rfl) (wl_load rfl rfl (load_cell cellInt hb4 rfl) (by decide) (mv 1 rfl (cl (vs:= [.int .i64 i,.int .i64 ((n:Nat):Int)]) hw1 (g_stp_in.mono (Gv.imp (fun _ _ h9=>h9.trans (congrArg Value.bool (decide_eq_true hi))))) rfl (by kernel_rfl) fun xr8 v6 r8 e7 hw2=>?_))))
   obtain rfl:=r8
   refine mv 1 rfl (pf g1 1 rfl (by kernel_rfl) (wl_load rfl rfl (load_cell cellInt (hb4.ext e7) rfl) (by decide) (mv 1 rfl (cl (vs:= [.int .i64 j,.int .i64 ((n:Nat):Int)]) hw2 (g_stp_in.mono (Gv.imp (fun _ _ h9=>h9.trans (congrArg Value.bool (decide_eq_true hj))))) rfl (by kernel_rfl) fun xr11 v9 r11 e10 hw3=>?_))))
   obtain rfl:=r11
   refine pu (v:= .bool true) rfl (by kernel_rfl) (mv 1 rfl (ne_ (cw_ret (eo_ret [.bool true] rfl ⟨rfl,trivial⟩ ?_))))
   exact⟨_,rfl,(congrArg Value.bool (decide_eq_true (p:=insd n i∧insd n j) ⟨hi,hj⟩).symm),hw3⟩
  · 
   refine cw_region (pf g1 0 rfl (by kernel_rfl) (wl_load rfl rfl (load_cell cellInt hb4 rfl) (by decide) (mv 1 rfl (cl (vs:= [.int .i64 i,.int .i64 ((n:Nat):Int)]) hw1 (g_stp_in.mono (Gv.imp (fun _ _ h9=>h9.trans (congrArg Value.bool (decide_eq_true hi))))) rfl (by kernel_rfl) fun xr14 v12 r14 e13 hw2=>?_))))
   obtain rfl:=r14
   refine mv 1 rfl (pf g1 1 rfl (by kernel_rfl) (wl_load rfl rfl (load_cell cellInt (hb4.ext e13) rfl) (by decide) (mv 1 rfl (cl (vs:= [.int .i64 j,.int .i64 ((n:Nat):Int)]) hw2 (g_stp_in.mono (Gv.imp (fun _ _ h9=>h9.trans (congrArg Value.bool (decide_eq_false hj))))) rfl (by kernel_rfl) fun xr17 v15 r17 e16 hw3=>?_))))
   obtain rfl:=r17
   refine pu (v:= .bool false) rfl (by kernel_rfl) (mv 1 rfl (ne_ (cw_ret (eo_ret [F0] rfl ⟨rfl,trivial⟩ ?_))))
   exact⟨_,rfl,(congrArg Value.bool (decide_eq_false (p:=insd n i∧insd n j) (fun h=>by obtain⟨h1,h2⟩:=h;contradiction)).symm),hw3⟩
 · 
  refine cw_region (pf g1 0 rfl (by kernel_rfl) (wl_load rfl rfl (load_cell cellInt hb4 rfl) (by decide) (mv 1 rfl (cl (vs:= [.int .i64 i,.int .i64 ((n:Nat):Int)]) hw1 (g_stp_in.mono (Gv.imp (fun _ _ h9=>h9.trans (congrArg Value.bool (decide_eq_false hi))))) rfl (by kernel_rfl) fun xr20 v18 r20 e19 hw2=>?_))))
  obtain rfl:=r20
  refine mv 5 rfl (pu (v:= .bool false) rfl (by kernel_rfl) (mv 1 rfl (ne_ (cw_ret (eo_ret [F0] rfl ⟨rfl,trivial⟩ ?_)))))
  exact⟨_,rfl,(congrArg Value.bool (decide_eq_false (p:=insd n i∧insd n j) (fun h=>by obtain⟨h1,h2⟩:=h;contradiction)).symm),hw2⟩
set_option maxHeartbeats 4000000 in
theorem g_stp_fits_negate {w:World}{i:Int}{n:Nat}:
    Calls Tryz.prog 139 #[.agg #[.int .i64 i],.int .i64 ((n:Nat):Int)] w (Gv w (Is (.bool (decide (insd n i))))):=by
 refine sx_enter Tryz.func139 rfl (n:=9) rfl (bq rfl) (args:= [.agg #[.int .i64 i],.int .i64 ((n:Nat):Int)]) (cw_keep [(0,.agg #[.int .i64 i]),(1,.int .i64 ((n:Nat):Int))] ⟨rfl,rfl,trivial⟩ (sr (bx [.int .i64 i] (Ext.refl w) rfl rfl rfl fun g1 v2 hb4 ge5 e3 hw1=>(mv 1 rfl (ne_ (cw_seq ?_))))))
 by_cases hi:insd n i
 · 
  refine cw_region (pf g1 0 rfl (by kernel_rfl) (wl_load rfl rfl (load_cell cellInt hb4 rfl) (by decide) (mv 1 rfl (cl (vs:= [.int .i64 i,.int .i64 ((n:Nat):Int)]) hw1 (g_stp_in.mono (Gv.imp (fun _ _ h9=>h9.trans (congrArg Value.bool (decide_eq_true hi))))) rfl (by kernel_rfl) fun xr8 v6 r8 e7 hw2=>?_))))
  obtain rfl:=r8
  refine mv 1 rfl (ne_ (cw_ret (eo_ret [.bool true] rfl ⟨rfl,trivial⟩ ?_)))
  exact⟨_,rfl,(congrArg Value.bool (decide_eq_true (p:=insd n i) hi).symm),hw2⟩
 · 
  refine cw_region (pf g1 0 rfl (by kernel_rfl) (wl_load rfl rfl (load_cell cellInt hb4 rfl) (by decide) (mv 1 rfl (cl (vs:= [.int .i64 i,.int .i64 ((n:Nat):Int)]) hw1 (g_stp_in.mono (Gv.imp (fun _ _ h9=>h9.trans (congrArg Value.bool (decide_eq_false hi))))) rfl (by kernel_rfl) fun xr11 v9 r11 e10 hw2=>?_))))
  obtain rfl:=r11
  refine mv 1 rfl (ne_ (cw_ret (eo_ret [F0] rfl ⟨rfl,trivial⟩ ?_)))
  exact⟨_,rfl,(congrArg Value.bool (decide_eq_false (p:=insd n i) hi).symm),hw2⟩
set_option maxHeartbeats 4000000 in
theorem g_stp_fits_add {w:World}{i j:Int}{n:Nat}{sf:Bool}{Af:Option Addr}{nf cf:Nat}:
    Calls Tryz.prog 142 #[.agg #[.int .i64 i,.int .i64 j,.bool sf,.slice Af nf cf],.int .i64 ((n:Nat):Int)] w (Gv w (Is (.bool (decide (insd n i∧insd n j∧i≠j))))):=by
 refine sx_enter Tryz.func142 rfl (n:=22) rfl (bq rfl) (args:= [.agg #[.int .i64 i,.int .i64 j,.bool sf,.slice Af nf cf],.int .i64 ((n:Nat):Int)]) (cw_keep [(0,.agg #[.int .i64 i,.int .i64 j,.bool sf,.slice Af nf cf]),(1,.int .i64 ((n:Nat):Int))] ⟨rfl,rfl,trivial⟩ (sr (bx [.int .i64 i,.int .i64 j,.bool sf,.slice Af nf cf] (Ext.refl w) rfl rfl rfl fun g1 v2 hb4 ge5 e3 hw1=>(mv 1 rfl (ne_ (cw_seq ?_))))))
 by_cases hi:insd n i
 · 
  by_cases hj:insd n j
  · 
   by_cases hij:i≠j
   · 
    refine cw_region (pf g1 0 rfl (by kernel_rfl) (wl_load rfl rfl (load_cell cellInt hb4 rfl) (by decide) (mv 1 rfl (cl (vs:= [.int .i64 i,.int .i64 ((n:Nat):Int)]) hw1 (g_stp_in.mono (Gv.imp (fun _ _ h9=>h9.trans (congrArg Value.bool (decide_eq_true hi))))) rfl (by kernel_rfl) fun xr8 v6 r8 e7 hw2=>?_))))
    obtain rfl:=r8
    refine mv 1 rfl (pf g1 1 rfl (by kernel_rfl) (wl_load rfl rfl (load_cell cellInt (hb4.ext e7) rfl) (by decide) (mv 1 rfl (cl (vs:= [.int .i64 j,.int .i64 ((n:Nat):Int)]) hw2 (g_stp_in.mono (Gv.imp (fun _ _ h9=>h9.trans (congrArg Value.bool (decide_eq_true hj))))) rfl (by kernel_rfl) fun xr11 v9 r11 e10 hw3=>?_))))
    obtain rfl:=r11
    refine pu (v:= .bool true) rfl (by kernel_rfl) (mv 1 rfl (pf g1 0 rfl (by kernel_rfl) (wl_load rfl rfl (load_cell cellInt (hb4.ext (e7.trans e10)) rfl) (by decide) (pf g1 1 rfl (by kernel_rfl) (wl_load rfl rfl (load_cell cellInt (hb4.ext (e7.trans e10)) rfl) (by decide) (wl_cmp rfl rfl rfl true (ci_ne_t hij) (by decide) (pu (v:= .bool true) rfl (by kernel_rfl) (mv 1 rfl (ne_ (cw_ret (eo_ret [.bool true] rfl ⟨rfl,trivial⟩ ?_)))))))))))
    exact⟨_,rfl,(congrArg Value.bool (decide_eq_true (p:=insd n i∧insd n j∧i≠j) ⟨hi,hj,hij⟩).symm),hw3⟩
   · 
    refine cw_region (pf g1 0 rfl (by kernel_rfl) (wl_load rfl rfl (load_cell cellInt hb4 rfl) (by decide) (mv 1 rfl (cl (vs:= [.int .i64 i,.int .i64 ((n:Nat):Int)]) hw1 (g_stp_in.mono (Gv.imp (fun _ _ h9=>h9.trans (congrArg Value.bool (decide_eq_true hi))))) rfl (by kernel_rfl) fun xr14 v12 r14 e13 hw2=>?_))))
    obtain rfl:=r14
    refine mv 1 rfl (pf g1 1 rfl (by kernel_rfl) (wl_load rfl rfl (load_cell cellInt (hb4.ext e13) rfl) (by decide) (mv 1 rfl (cl (vs:= [.int .i64 j,.int .i64 ((n:Nat):Int)]) hw2 (g_stp_in.mono (Gv.imp (fun _ _ h9=>h9.trans (congrArg Value.bool (decide_eq_true hj))))) rfl (by kernel_rfl) fun xr17 v15 r17 e16 hw3=>?_))))
    obtain rfl:=r17
    refine pu (v:= .bool true) rfl (by kernel_rfl) (mv 1 rfl (pf g1 0 rfl (by kernel_rfl) (wl_load rfl rfl (load_cell cellInt (hb4.ext (e13.trans e16)) rfl) (by decide) (pf g1 1 rfl (by kernel_rfl) (wl_load rfl rfl (load_cell cellInt (hb4.ext (e13.trans e16)) rfl) (by decide) (wl_cmp rfl rfl rfl false (ci_ne_f (Decidable.not_not.1 hij)) (by decide) (pu (v:= .bool false) rfl (by kernel_rfl) (mv 1 rfl (ne_ (cw_ret (eo_ret [F0] rfl ⟨rfl,trivial⟩ ?_)))))))))))
    exact⟨_,rfl,(congrArg Value.bool (decide_eq_false (p:=insd n i∧insd n j∧i≠j) (fun h=>by obtain⟨h1,h2,h3⟩:=h;contradiction)).symm),hw3⟩
  · 
   refine cw_region (pf g1 0 rfl (by kernel_rfl) (wl_load rfl rfl (load_cell cellInt hb4 rfl) (by decide) (mv 1 rfl (cl (vs:= [.int .i64 i,.int .i64 ((n:Nat):Int)]) hw1 (g_stp_in.mono (Gv.imp (fun _ _ h9=>h9.trans (congrArg Value.bool (decide_eq_true hi))))) rfl (by kernel_rfl) fun xr20 v18 r20 e19 hw2=>?_))))
   obtain rfl:=r20
   refine mv 1 rfl (pf g1 1 rfl (by kernel_rfl) (wl_load rfl rfl (load_cell cellInt (hb4.ext e19) rfl) (by decide) (mv 1 rfl (cl (vs:= [.int .i64 j,.int .i64 ((n:Nat):Int)]) hw2 (g_stp_in.mono (Gv.imp (fun _ _ h9=>h9.trans (congrArg Value.bool (decide_eq_false hj))))) rfl (by kernel_rfl) fun xr23 v21 r23 e22 hw3=>?_))))
   obtain rfl:=r23
   refine pu (v:= .bool false) rfl (by kernel_rfl) (mv 6 rfl (pu (v:= .bool false) rfl (by kernel_rfl) (mv 1 rfl (ne_ (cw_ret (eo_ret [F0] rfl ⟨rfl,trivial⟩ ?_))))))
   exact⟨_,rfl,(congrArg Value.bool (decide_eq_false (p:=insd n i∧insd n j∧i≠j) (fun h=>by obtain⟨h1,h2,h3⟩:=h;contradiction)).symm),hw3⟩
 · 
  refine cw_region (pf g1 0 rfl (by kernel_rfl) (wl_load rfl rfl (load_cell cellInt hb4 rfl) (by decide) (mv 1 rfl (cl (vs:= [.int .i64 i,.int .i64 ((n:Nat):Int)]) hw1 (g_stp_in.mono (Gv.imp (fun _ _ h9=>h9.trans (congrArg Value.bool (decide_eq_false hi))))) rfl (by kernel_rfl) fun xr26 v24 r26 e25 hw2=>?_))))
  obtain rfl:=r26
  refine mv 5 rfl (pu (v:= .bool false) rfl (by kernel_rfl) (mv 6 rfl (pu (v:= .bool false) rfl (by kernel_rfl) (mv 1 rfl (ne_ (cw_ret (eo_ret [F0] rfl ⟨rfl,trivial⟩ ?_)))))))
  exact⟨_,rfl,(congrArg Value.bool (decide_eq_false (p:=insd n i∧insd n j∧i≠j) (fun h=>by obtain⟨h1,h2,h3⟩:=h;contradiction)).symm),hw2⟩
set_option maxHeartbeats 4000000 in
theorem g_stp_fits_alien {w:World}{n:Nat}:
    Calls Tryz.prog 145 #[.agg #[],.int .i64 ((n:Nat):Int)] w (Gv w (Is (.bool (decide (False))))):=by
 refine sx_enter Tryz.func145 rfl (n:=5) rfl (bq rfl) (args:= [.agg #[],.int .i64 ((n:Nat):Int)]) (cw_keep [(0,.agg #[]),(1,.int .i64 ((n:Nat):Int))] ⟨rfl,rfl,trivial⟩ (sr (bx [] (Ext.refl w) rfl rfl rfl fun g1 v2 hb4 ge5 e3 hw1=>(mv 1 rfl (ne_ (sr (mv 1 rfl (ne_ (cw_ret (eo_ret [F0] rfl ⟨rfl,trivial⟩ ?_))))))))))
 exact⟨_,rfl,(congrArg Value.bool (decide_eq_false (p:=False) (fun h=>h)).symm),hw1⟩
set_option maxHeartbeats 4000000 in
theorem g_stp_readI {w:World}{k i j:Int}{sf:Bool}{Af:Option Addr}{nf cf:Nat}{f:Int}(hf:Zi w sf Af nf cf f) (lf:nf≤1048576):
    Calls Tryz.prog 27 #[.agg #[.int .i64 k,.int .i64 i,.int .i64 j,.bool sf,.slice Af nf cf]] w (Gv w (Mv w.heap.size ⟨k,i,j,f⟩)):=by
 have Lf:ln f≤1048576:=Nat.le_trans hf.ln lf
 refine sx_enter Tryz.func27 rfl (n:=32) rfl (bq rfl) (args:= [.agg #[.int .i64 k,.int .i64 i,.int .i64 j,.bool sf,.slice Af nf cf]]) (cw_keep [(0,.agg #[.int .i64 k,.int .i64 i,.int .i64 j,.bool sf,.slice Af nf cf])] ⟨rfl,trivial⟩ (sr (bx [.int .i64 k,.int .i64 i,.int .i64 j,.bool sf,.slice Af nf cf] (Ext.refl w) rfl rfl rfl fun g1 v2 hb4 ge5 e3 hw1=>(mv 1 rfl (ne_ (cw_seq (sr (pf g1 0 rfl (by kernel_rfl) (wl_load rfl rfl (load_cell cellInt hb4 rfl) (by decide) (ne_ (cw_block (cw_seq ?_))))))))))))
 by_cases hk1:k=1
 · 
  refine cw_region (wl_cmp rfl rfl rfl true (ci_eq_t hk1) (by decide) (mv 1 rfl (ne_ (cw_true rfl (sr (pf g1 1 rfl (by kernel_rfl) (wl_load rfl rfl (load_cell cellInt hb4 rfl) (by decide) (pf g1 2 rfl (by kernel_rfl) (wl_load rfl rfl (load_cell cellInt hb4 rfl) (by decide) (pu (v:= .agg #[.int .i64 i,.int .i64 j]) rfl (by kernel_rfl) (pu (v:= .iface 87 (.agg #[.int .i64 i,.int .i64 j])) rfl (by kernel_rfl) (mv 1 rfl (wl_nil ?_)))))))))))))
  refine eo_then (cw_ret (eo_block_ret (eo_thenR (eo_ret [.iface 87 (.agg #[.int .i64 i,.int .i64 j])] rfl ⟨rfl,trivial⟩ ?_))))
  exact⟨_,rfl,Or.inl ⟨hk1,rfl⟩,hw1⟩
 · 
  refine cw_region (wl_cmp rfl rfl rfl false (ci_eq_f hk1) (by decide) (mv 1 rfl (ne_ (cw_false rfl (cw_seq ?_)))))
  by_cases hk2:k=2
  · 
   refine cw_region (wl_cmp rfl rfl rfl true (ci_eq_t hk2) (by decide) (mv 1 rfl (ne_ (cw_true rfl (sr (pf g1 1 rfl (by kernel_rfl) (wl_load rfl rfl (load_cell cellInt hb4 rfl) (by decide) (pu (v:= .agg #[.int .i64 i]) rfl (by kernel_rfl) (pu (v:= .iface 89 (.agg #[.int .i64 i])) rfl (by kernel_rfl) (mv 1 rfl (ne_ (cw_ret (eo_block_ret ?_)))))))))))))
   refine eo_thenR (eo_ret [.iface 89 (.agg #[.int .i64 i])] rfl ⟨rfl,trivial⟩ ?_)
   exact⟨_,rfl,Or.inr (Or.inl ⟨hk2,rfl⟩),hw1⟩
  · 
   refine cw_region (wl_cmp rfl rfl rfl false (ci_eq_f hk2) (by decide) (mv 1 rfl (ne_ (cw_false rfl (cw_seq ?_)))))
   by_cases hk3:k=3
   · 
    refine cw_region (wl_cmp rfl rfl rfl true (ci_eq_t hk3) (by decide) (mv 1 rfl (ne_ (cw_true rfl (cw_seq ?_)))))
    refine cw_draw mix 9 [] [Is (.pointer (some ⟨g1,1,none⟩)),Is (.int .i64 i),Is (.pointer (some ⟨g1,2,none⟩)),Is (.int .i64 j),Is (.pointer (some ⟨g1,3,none⟩)),Is (.agg #[.bool sf,.slice Af nf cf]),ZR w.heap.size (f),AddQ w.heap.size i j f,AddI w.heap.size i j f] [[],[0],[],[2],[],[4],[5],[1,3,6],[7]] [[],[0],[],[2],[],[4],[4,5],[0,1,2,3,4,5,6],[0,1,2,3,4,5,6,7],[0,1,2,3,4,5,6,7,8]] rfl
     (obs_cons rfl rfl (hob rfl rfl ?_) (obs_cons rfl rfl (hob rfl rfl ?_) (obs_cons rfl rfl (hob rfl rfl ?_) (obs_cons rfl rfl (hob rfl rfl ?_) (obs_cons rfl rfl (hob rfl rfl ?_) (obs_cons rfl rfl (hob rfl rfl ?_) (obs_cons rfl rfl (hob rfl rfl ?_) (obs_cons rfl rfl (hob rfl rfl ?_) (obs_cons rfl rfl (hob rfl rfl ?_) obs_nil))))))))) ?_
    · 
     exact fun _ _=>deps_nil (pf g1 1 rfl (by kernel_rfl) (pi_done rfl (Ext.refl _) rfl))
    · 
     exact fun _ e12=>dk rfl rfl (deps_nil (wl_load rfl rfl (load_cell cellInt (hb4.ext e12) rfl) (by decide) (pi_done rfl (Ext.refl _) rfl)))
    · 
     exact fun _ _=>deps_nil (pf g1 2 rfl (by kernel_rfl) (pi_done rfl (Ext.refl _) rfl))
    · 
     exact fun _ e21=>dk rfl rfl (deps_nil (wl_load rfl rfl (load_cell cellInt (hb4.ext e21) rfl) (by decide) (pi_done rfl (Ext.refl _) rfl)))
    · 
     exact fun _ _=>deps_nil (pf g1 3 rfl (by kernel_rfl) (pi_done rfl (Ext.refl _) rfl))
    · 
     exact fun _ e30=>dk rfl rfl (deps_nil (lo aggInt (hb4.ext e30) [.bool sf,.slice Af nf cf] rfl rfl rfl (pi_done rfl (Ext.refl _) rfl)))
    · 
     intro v36 e37
     have hw2:=hw1.trans e37
     refine dk rfl rfl (deps_nil (cl (vs:= [.agg #[.bool sf,.slice Af nf cf]]) hw2 (g_zint_Least hw2.size (hf.ext hw2) (lx_ lf rfl)) rfl (by kernel_rfl) fun xr45 v43 r45 e44 hw3=>?_))
     obtain⟨s46,A46,n46,c46,rfl,z46⟩:=r45
     exact pi_done rfl e44 ⟨_,_,_,_,rfl,z46⟩
    · 
     intro v47 e48
     refine dk rfl rfl (dk rfl rfl (deps_cons rfl rfl fun x59 y60 h61 e62 f63=>?_))
     obtain⟨s64,A64,n64,c64,rfl,z64⟩:=h61
     have z64:=z64.ext f63
     refine deps_nil (pu (v:= .agg #[.int .i64 i,.int .i64 j,.bool s64,.slice A64 n64 c64]) rfl (by kernel_rfl) ?_)
     exact pi_done rfl (Ext.refl _) ⟨_,_,_,_,rfl,z64⟩
    · 
     intro v65 e66
     refine deps_cons rfl rfl fun x67 y68 h69 e70 f71=>?_
     obtain⟨s72,A72,n72,c72,rfl,z72⟩:=h69
     have z72:=z72.ext f71
     refine deps_nil (pu (v:= .iface 91 (.agg #[.int .i64 i,.int .i64 j,.bool s72,.slice A72 n72 c72])) rfl (by kernel_rfl) ?_)
     exact pi_done rfl (Ext.refl _) ⟨_,_,_,_,rfl,z72⟩
    · 
     intro v73 e74
     have hw2:=hw1.trans e74
     refine dk rfl rfl (dk rfl rfl (dk rfl rfl (dk rfl rfl (dk rfl rfl (dk rfl rfl (deps_cons rfl rfl fun x105 y106 h107 e108 f109=>?_))))))
     obtain⟨s110,A110,n110,c110,rfl,z110⟩:=h107
     have z110:=z110.ext f109
     refine deps_cons rfl rfl fun x111 y112 h113 e114 f115=>?_
     obtain⟨s116,A116,n116,c116,rfl,z116⟩:=h113
     have z116:=z116.ext f115
     refine deps_cons rfl rfl fun x117 y118 h119 e120 f121=>?_
     obtain⟨s122,A122,n122,c122,rfl,z122⟩:=h119
     have z122:=z122.ext f121
     refine deps_nil (mv 1 rfl (wl_nil (eo_np (eo_then (cw_ret (eo_block_ret (eo_thenR (eo_ret [.iface 91 (.agg #[.int .i64 i,.int .i64 j,.bool s122,.slice A122 n122 c122])] rfl ⟨rfl,trivial⟩ ?_))))))))
     exact⟨_,rfl,Or.inr (Or.inr (Or.inl ⟨hk3,_,_,_,_,rfl,z122⟩)),hw2⟩
   · 
    refine cw_region (wl_cmp rfl rfl rfl false (ci_eq_f hk3) (by decide) (mv 1 rfl (ne_ (cw_false rfl (cw_skip (eo_block_normal (eo_then (sr (pu (v:= .agg #[]) rfl (by kernel_rfl) (pu (v:= .iface 93 (.agg #[])) rfl (by kernel_rfl) (mv 1 rfl (ne_ (cw_ret ?_)))))))))))))
    refine eo_ret [.iface 93 (.agg #[])] rfl ⟨rfl,trivial⟩ ?_
    exact⟨_,rfl,Or.inr (Or.inr (Or.inr ⟨hk1,hk2,hk3,rfl⟩)),hw1⟩
theorem Mv.imp {b b':Nat}{s:Stp}(hb:b'≤b){v:Value}{w:World}(h:Mv b s v w):Mv b' s v w:=
 Or.imp id (Or.imp id (Or.imp (fun⟨h,t,B,m,c,e,z⟩=>⟨h,t,B,m,c,e,z.mono hb⟩) id)) h
theorem g_stp_read {w:World}{b:Nat}(hb:b≤w.heap.size){k i j:Int}{sf:Bool}{Af:Option Addr}{nf cf:Nat}{f:Int}(hf:Zi w sf Af nf cf f) (lf:nf≤1048576):
  Calls Tryz.prog 27 #[.agg #[.int .i64 k,.int .i64 i,.int .i64 j,.bool sf,.slice Af nf cf]] w (Gv w (Mv b ⟨k,i,j,f⟩)):=(g_stp_readI hf lf).mono (Gv.imp (fun _ _ h=>h.imp hb))
section
variable {Q:Exit→Act→World→Prop}{N:Nat}{l:Fr}{w:World}{ops:Array Oper}{rest:List Oper}{d:Nat}{ty:TypeId}{pos:String}{af:Array Edge}{gd:Option (Nat×Bool)}
theorem wl_fits {x y:Operand}{ts:Array TypeId}{b n:Nat}{s:Stp}{v:Value}(hw:guardB ops l gd=some true) (hx:evo l x=some v) (hy:evo l y=some (.int .i64 (n:Int))) (hv:Mv b s v w) (hd:d<N)
  (h:∀w',Ext w w'→wl Tryz.prog ops Q N rest ((d,.bool (decide (s.fit n)))::l) w'):
  wl Tryz.prog ops Q N (⟨some d,.call {callee:= .invoke x "trellis/steps.fits",args:= #[y],argTypes:=ts},ty,pos,af,gd⟩::rest) l w:=by
 have hys:(#[y]:Array Operand).toList.map (evo l)= [Value.int .i64 (n:Int)].map some:=by simp [hy]
 have fin:∀{P:Prop} [Decidable P] {e:Ending}{w':World},(P↔s.fit n)→Gv w (Is (.bool (decide P))) e w'→Ret (fun v=>wl Tryz.prog ops Q N rest ((d,v)::l) w') e:=by
  intro P _ e w' hP he
  obtain⟨u,rfl,hu,hx⟩:=he
  refine ret_intro ?_
  rw [show u=_ from hu,decide_eq_decide.2 hP]
  exact h w' hx
 rcases hv with⟨hk,rfl⟩ | ⟨hk,rfl⟩ | ⟨hk,t,B,m,c,rfl,hz⟩ | ⟨h1,h2,h3,rfl⟩
 ·exact wl_callI [.int .i64 (n:Int)] hw hx hys (fun _=>by kernel_rfl) hd g_stp_fits_swap fun e w' he=>fin (by unfold Stp.fit;simp [hk]) he
 ·exact wl_callI [.int .i64 (n:Int)] hw hx hys (fun _=>by kernel_rfl) hd g_stp_fits_negate fun e w' he=>fin (by unfold Stp.fit;simp [hk]) he
 ·exact wl_callI [.int .i64 (n:Int)] hw hx hys (fun _=>by kernel_rfl) hd g_stp_fits_add fun e w' he=>fin (by unfold Stp.fit;simp [hk]) he
 ·exact wl_callI [.int .i64 (n:Int)] hw hx hys (fun _=>by kernel_rfl) hd g_stp_fits_alien fun e w' he=>fin (by unfold Stp.fit;simp [h1,h2,h3]) he
end
set_option maxHeartbeats 4000000 in
theorem g_stp_Check {w:World}{n:Nat}(hn:n≤64){As:Option Addr}{m caps:Nat}{ss:List Stp}{ms:List Nat}(hS:Sl w As m ss ms) (hM:∀i,ms.getD i 0≤1048576) (hm:m≤1048576):
    Calls Tryz.prog 25 #[.int .i64 ((n:Nat):Int),.slice As m caps] w (Gv w (fun v _=>∃k e:Int,v= .tuple #[.int .i64 k,.int .i64 e]∧((e=0∧k= -1∧∀i,i<m→(ss.getD i Stp.z).fit n)∨(e=3∧∃i,i<m∧¬(ss.getD i Stp.z).fit n)))):=by
 refine sx_enter Tryz.func25 rfl (n:=28) rfl (bq rfl) (args:= [.int .i64 ((n:Nat):Int),.slice As m caps]) (cw_keep [(0,.int .i64 ((n:Nat):Int)),(1,.slice As m caps)] ⟨rfl,rfl,trivial⟩ (sr (mv 2 rfl (ne_ (cw_seq (sr (mv 1 rfl (wl_cmp rfl rfl rfl false (cb_lt_f (a:=n) (b:=0) rfl rfl (by omega)) (by decide) (mv 2 rfl (wl_cmp rfl rfl rfl false (cb_gt_f (a:=n) (b:=64) rfl rfl (by omega)) (by decide) (pu (v:= .bool false) rfl (by kernel_rfl) (ne_ (cw_false rfl ?_)))))))))))))
 refine cw_skip (eo_then (cw_seq (sr (mv 1 rfl (pu (v:= .int .i64 ((m:Nat):Int)) rfl (by kernel_rfl) (mv 1 rfl (ne_ (cw_block ?_))))))))
 refine cw_loop (T:=World×Nat) (fun⟨wr,i⟩=> [(0,.int .i64 ((n:Nat):Int)),(1,.slice As m caps),(4,.int .i64 0),(5,.int .i64 0),(8,.int .i64 ((n:Nat):Int)),(9,.bool false),(10,.bool false),(11,.int .i64 ((n:Nat):Int)),(12,.bool false),(13,.bool false),(14,.slice As m caps),(15,.int .i64 ((m:Nat):Int)),(16,.int .i64 ((i:Nat):Int))]) (fun⟨wr,i⟩=>wr) (fun⟨wr,i⟩=>(Ext w wr)∧(i≤m)∧(∀j,j<i→(ss.getD j Stp.z).fit n)) (fun⟨wr,i⟩=>m-i)
  (⟨w,0⟩:World×Nat) ⟨(Ext.refl w),(by omega),(fun j hj=>by omega)⟩ rfl ⟨rfl,rfl,rfl,rfl,rfl,rfl,rfl,rfl,rfl,rfl,rfl,rfl,rfl,trivial⟩ ?_
 rintro⟨wr,i⟩ ⟨hw1,hi_i,hall⟩
 refine cw_re [(0,.int .i64 ((n:Nat):Int)),(1,.slice As m caps),(4,.int .i64 0),(5,.int .i64 0),(8,.int .i64 ((n:Nat):Int)),(9,.bool false),(10,.bool false),(11,.int .i64 ((n:Nat):Int)),(12,.bool false),(13,.bool false),(14,.slice As m caps),(15,.int .i64 ((m:Nat):Int)),(16,.int .i64 ((i:Nat):Int))] wr rfl ⟨rfl,rfl,rfl,rfl,rfl,rfl,rfl,rfl,rfl,rfl,rfl,rfl,rfl,trivial⟩ (cw_seq ?_)
 by_cases him:i<m
 · 
  refine cw_region (wl_cmp rfl rfl rfl true (cb_lt_t (a:=i) (b:=m) rfl rfl (by omega)) (by decide) (ne_ (cw_seq (cw_true rfl (cw_skip (eo_then (cw_seq (cw_block (sr (mv 1 rfl ?_))))))))))
  obtain⟨ps1,sf1,Bf1,cf1,hps1,lds1,ef1⟩:=hS.at (i:=i) (by omega)
  refine wl_idx rfl rfl rfl Tryz.underlying25 aggStep.size i rfl (by omega) ps1 hps1 (by decide) (wl_load rfl rfl (lds1 _ hw1) (by decide) (al [I0,I0,I0,F0,S0] hw1 (fun _=>by kernel_rfl) rfl fun g2 v3 hb5 ge6 e4 hw2=>(mv 1 rfl (so aggStep hb5 [.int .i64 ((ss.getD i Stp.z).k),.int .i64 ((ss.getD i Stp.z).i),.int .i64 ((ss.getD i Stp.z).j),.bool sf1,.slice Bf1 (ms.getD i 0) cf1] hw2 ge6 rfl rfl rfl rfl fun v7 hb9 u10 hw3=>(ne_ (cw_seq ?_))))))
  by_cases hfit:(ss.getD i Stp.z).fit n
  · 
   refine cw_region (lo aggStep hb9 [.int .i64 ((ss.getD i Stp.z).k),.int .i64 ((ss.getD i Stp.z).i),.int .i64 ((ss.getD i Stp.z).j),.bool sf1,.slice Bf1 (ms.getD i 0) cf1] rfl rfl rfl (cl (vs:= [.agg #[.int .i64 ((ss.getD i Stp.z).k),.int .i64 ((ss.getD i Stp.z).i),.int .i64 ((ss.getD i Stp.z).j),.bool sf1,.slice Bf1 (ms.getD i 0) cf1]]) hw3 (g_stp_read hw3.size (ef1.ext hw3) (Nat.le_trans (hM i) (by decide))) rfl (by kernel_rfl) fun xr14 v12 r14 e13 hw4=>(mv 1 rfl (wl_fits rfl rfl rfl r14 (by decide) fun v15 e16=>?_))))
   have hw5:=hw4.trans e16
   rw [decide_eq_true hfit]
   refine pu (v:= .bool false) rfl (by kernel_rfl) (ne_ (cw_false rfl (cw_skip (eo_block_normal (eo_then (cw_region (wl_ar rfl rfl rfl ((i+1:Nat):Int) (ai_add (a:=i) (b:=1) rfl rfl (by omega)) (by decide) (mv 1 rfl (wl_nil (eo_round (⟨v15,i+1⟩:World×Nat) ⟨hw5,(by omega),(fun j hj=>(Nat.lt_or_ge j i).elim (hall j) (fun h=>(show i=j by omega)▸hfit))⟩ (show m-(i+1)<m-i by omega) rfl ⟨rfl,rfl,rfl,rfl,rfl,rfl,rfl,rfl,rfl,rfl,rfl,rfl,rfl,trivial⟩))))))))))
  · 
   refine cw_region (lo aggStep hb9 [.int .i64 ((ss.getD i Stp.z).k),.int .i64 ((ss.getD i Stp.z).i),.int .i64 ((ss.getD i Stp.z).j),.bool sf1,.slice Bf1 (ms.getD i 0) cf1] rfl rfl rfl (cl (vs:= [.agg #[.int .i64 ((ss.getD i Stp.z).k),.int .i64 ((ss.getD i Stp.z).i),.int .i64 ((ss.getD i Stp.z).j),.bool sf1,.slice Bf1 (ms.getD i 0) cf1]]) hw3 (g_stp_read hw3.size (ef1.ext hw3) (Nat.le_trans (hM i) (by decide))) rfl (by kernel_rfl) fun xr19 v17 r19 e18 hw4=>(mv 1 rfl (wl_fits rfl rfl rfl r19 (by decide) fun v20 e21=>?_))))
   have hw5:=hw4.trans e21
   rw [decide_eq_false hfit]
   refine pu (v:= .bool true) rfl (by kernel_rfl) (ne_ (cw_true rfl (sr (mv 3 rfl (ne_ (cw_ret (eo_block_ret (eo_thenR (eo_loopR (eo_block_ret (eo_thenR (eo_ret [.int .i64 ((i:Nat):Int),.int .i64 3] rfl ⟨rfl,rfl,trivial⟩ ?_))))))))))))
   exact⟨_,rfl,⟨_,_,rfl,Or.inr ⟨rfl,_,him,hfit⟩⟩,hw5⟩
 · 
  refine cw_region (wl_cmp rfl rfl rfl false (cb_lt_f (a:=i) (b:=m) rfl rfl (by omega)) (by decide) (ne_ (cw_seq (cw_false rfl (cw_exit (eo_thenX (eo_loopX (eo_block_here (eo_then (sr (mv 2 rfl (ne_ (cw_ret ?_)))))))))))))
  refine eo_ret [.int .i64 (-1),I0] rfl ⟨rfl,rfl,trivial⟩ ?_
  exact⟨_,rfl,⟨_,_,rfl,Or.inl ⟨rfl,rfl,fun j hj=>hall j (by omega)⟩⟩,hw1⟩
theorem g_stp_Check_ok {w:World}{n:Nat}(hn:n≤64){As:Option Addr}{m caps:Nat}{ss:List Stp}{ms:List Nat}(hS:Sl w As m ss ms) (hM:∀i,ms.getD i 0≤1048576) (hm:m≤1048576) (h:∀i,i<m→(ss.getD i Stp.z).fit n):Calls Tryz.prog 25 #[.int .i64 (n:Int),.slice As m caps] w (Gv w (T2 (Is (.int .i64 (-1))) (Is (.int .i64 0)))):=by
 refine (g_stp_Check hn hS hM hm).mono (Gv.imp (fun v w' hv=>?_))
 obtain⟨k,e,rfl,⟨rfl,rfl,_⟩ | ⟨_,i,h1,h2⟩⟩:=hv
 ·exact⟨_,_,rfl,rfl,rfl⟩
 ·exact absurd (h i h1) h2
theorem g_stp_Check_no {w:World}{n:Nat}(hn:n≤64){As:Option Addr}{m caps:Nat}{ss:List Stp}{ms:List Nat}(hS:Sl w As m ss ms) (hM:∀i,ms.getD i 0≤1048576) (hm:m≤1048576) (h:¬(∀i,i<m→(ss.getD i Stp.z).fit n)):Calls Tryz.prog 25 #[.int .i64 (n:Int),.slice As m caps] w (Gv w (T2 (fun v _=>∃q,v=Value.int .i64 q) (Is (.int .i64 3)))):=by
 refine (g_stp_Check hn hS hM hm).mono (Gv.imp (fun v w' hv=>?_))
 obtain⟨k,e,rfl,⟨_,_,h1⟩ | ⟨rfl,i,h1,h2⟩⟩:=hv
 ·exact absurd h1 h
 ·exact⟨_,_,rfl,⟨_,rfl⟩,rfl⟩
structure Ap2 (n:Nat) (RA:Option Addr) (ra:Nat→Option Addr):Prop where
 Rr:∀r,r<n→∀p q,RA=some p→ra r=some q→p.block≠q.block
structure Lns (lb n cc:Nat) (RA:Option Addr) (rcap:Nat) (ra:Nat→Option Addr) (rc:Nat→Nat) (ps:List Nat) (Z:Mx) (w:World):Prop where
 R:Own w lb 22 1 RA n rcap (ps.map (rwv ra rc cc))
 C:Rcs 17179869184 lb n cc ra rc w Z
 per:Per n ps
set_option maxHeartbeats 4000000 in
theorem g_stp_on_swap {w:World}{lb n cc:Nat}{RA:Option Addr}{rcap:Nat}{ra:Nat→Option Addr}{rc:Nat→Nat}{ps:List Nat}{Z:Mx}(hlb:lb≤w.heap.size) (hA:Ap2 n RA ra) (hR:Own w lb 22 1 RA n rcap (ps.map (rwv ra rc cc))) (hC:Rcs 17179869184 lb n cc ra rc w Z) (_hn:n≤64) (_hcc:cc≤64) (hPer:Per n ps) (_hZ:∀a b,a<n→b<cc→ln (pr Z ps a b)≤1048576){s:Stp}(hk:s.k=1){i j:Nat}(hi:s.i=i) (hj:s.j=j) (hi2:i<n) (hj2:j<n):
    Calls Tryz.prog 136 #[.agg #[.int .i64 ((i:Nat):Int),.int .i64 ((j:Nat):Int)],.slice RA n rcap] w (fun e w'=>e= .returned (.tuple #[])∧Bl lb w w'∧∃ps' Z',Lns lb n cc RA rcap ra rc ps' Z' w'∧∀a b,a<n→b<cc→pr Z' ps' a b=stp s (pr Z ps) a b):=by
 have hcap:=hR.rv.le
 refine sx_enter Tryz.func136 rfl (n:=22) rfl (bq rfl) (args:= [.agg #[.int .i64 ((i:Nat):Int),.int .i64 ((j:Nat):Int)],.slice RA n rcap]) (cw_keep [(0,.agg #[.int .i64 ((i:Nat):Int),.int .i64 ((j:Nat):Int)]),(1,.slice RA n rcap)] ⟨rfl,rfl,trivial⟩ (sr (wl_box rfl rfl (vs:= [.int .i64 ((i:Nat):Int),.int .i64 ((j:Nat):Int)]) rfl (by decide) fun g1 v2 nb=>?_)))
 have hb4:=nb.bk
 have ge5:w.heap.size≤g1:=by rw [←nb.at_];exact (Bl.refl hlb).size
 have ne6:∀p:Addr,RA=some p→p.block≠g1:=fun p hp=>by have:=((hR).block p hp).2;have:=nb.at_;omega
 have nr7:∀r,r<n→∀p:Addr,ra r=some p→p.block≠g1:=fun r hr p hp=>by have:=((hC).lt r hr p hp).2;have:=nb.at_;omega
 have e3:=nb.ext
 clear nb
 have hw1:Bl lb w v2:=(Bl.refl hlb).ext e3
 refine ne_ (cw_keep [(1,.slice RA n rcap),(2,.pointer (some ⟨g1,0,none⟩))] ⟨rfl,rfl,trivial⟩ ?_)
 obtain⟨v8,hv,e9⟩:∃v,v=v2.drew∧Ext v2 v:=⟨_,rfl,(Ext.refl _).drew⟩
 have hw2:Bl lb w v8:=hw1.ext e9
 obtain⟨pz10,hpz10,hcz10⟩:=((hR.ext (e3.trans e9))).rowAt (i:=j) (by omega)
 obtain⟨pz11,hpz11,hcz11⟩:=((hR.ext (e3.trans e9))).rowAt (i:=i) (by omega)
 have lt12:=(hR.ext (e3.trans e9))
 obtain⟨v13,hr14,own15,uo16⟩:=run_setRow lt12 (by omega) hpz11 (ps.getD j 0)
 have hw3:Bl lb w v13:=hw2.updO uo16 (fun p hp=>(lt12.block p hp).1)
 obtain⟨pz17,hpz17,hcz17⟩:=(own15).rowAt (i:=j) (by omega)
 have lt18:=own15
 obtain⟨v19,hr20,own21,uo22⟩:=run_setRow lt18 (by omega) hpz17 (ps.getD i 0)
 have hw4:Bl lb w v19:=hw3.updO uo22 (fun p hp=>(lt18.block p hp).1)
 refine cw_det mix (w:=v8) [.slice RA n rcap,.pointer (some ⟨g1,0,none⟩),.int .i64 ((i:Nat):Int),.slice RA n rcap,.pointer (some ⟨g1,1,none⟩),.int .i64 ((j:Nat):Int),.slice RA n rcap,.pointer (some ⟨g1,1,none⟩),.int .i64 ((j:Nat):Int),.pointer (some pz10),.slice (ra (ps.getD j 0)) cc (rc (ps.getD j 0)),.slice RA n rcap,.pointer (some ⟨g1,0,none⟩),.int .i64 ((i:Nat):Int),.pointer (some pz11),.slice (ra (ps.getD i 0)) cc (rc (ps.getD i 0)),.pointer (some pz11),undef,.pointer (some pz17),undef] [v8,v13,v19] [17,19] [[],[],[1],[],[],[4],[],[],[7],[6,8],[9],[],[],[12],[11,13],[14],[0,2],[10,16],[3,5],[15,18]] [[],[],[1],[],[],[4],[],[],[7],[6,7,8],[6,7,8,9],[],[],[12],[11,12,13],[11,12,13,14],[0,1,2,6,7,8,9,10,11,12,13,14,15],[0,1,2,6,7,8,9,10,11,12,13,14,15,16],[0,1,2,3,4,5,6,7,8,9,10,11,12,13,14,15,16,17],[0,1,2,3,4,5,6,7,8,9,10,11,12,13,14,15,16,17,18]] [(0,0),(1,0),(2,0),(3,0),(3,1),(4,0),(4,1),(5,0),(5,1),(6,0),(7,0),(8,0),(9,0),(10,0),(11,0),(12,0),(13,0),(14,0),(15,0),(16,0),(17,0),(18,1),(19,1)] rfl hv ?_ ?_
 · 
  refine dobs_val _ rfl rfl rfl rfl rfl (rd_move rfl) (dobs_val _ rfl rfl rfl rfl rfl (rd_pure rfl (by kernel_rfl)) (dobs_val _ rfl rfl rfl rfl rfl (rd_load rfl (load_cell cellInt (hb4.ext e9) rfl)) (dobs_val _ rfl rfl rfl rfl rfl (rd_move rfl) (dobs_val _ rfl rfl rfl rfl rfl (rd_move rfl) (dobs_val _ rfl rfl rfl rfl rfl (rd_pure rfl (by kernel_rfl)) (dobs_val _ rfl rfl rfl rfl rfl (rd_pure rfl (by kernel_rfl)) (dobs_val _ rfl rfl rfl rfl rfl (rd_load rfl (load_cell cellInt (hb4.ext e9) rfl)) (dobs_val _ rfl rfl rfl rfl rfl (rd_load rfl (load_cell cellInt ((hb4.ext e9).updO uo16 ne6) rfl)) (dobs_val _ rfl rfl rfl rfl rfl (rd_move rfl) (dobs_val _ rfl rfl rfl rfl rfl (rd_pure rfl (by kernel_rfl)) (dobs_val _ rfl rfl rfl rfl rfl (rd_load rfl (load_cell cellInt (hb4.ext e9) rfl)) (dobs_val _ rfl rfl rfl rfl rfl (rd_idx rfl rfl Tryz.underlying55 szInts j rfl (by omega) pz10 hpz10) (dobs_val _ rfl rfl rfl rfl rfl (rd_load rfl (load_cell1 cellInts hcz10)) ?_)))))))))))))
  refine dobs_val _ rfl rfl rfl rfl rfl (rd_move rfl) (dobs_val _ rfl rfl rfl rfl rfl (rd_pure rfl (by kernel_rfl)) (dobs_val _ rfl rfl rfl rfl rfl (rd_load rfl (load_cell cellInt (hb4.ext e9) rfl)) (dobs_val _ rfl rfl rfl rfl rfl (rd_idx rfl rfl Tryz.underlying55 szInts i rfl (by omega) pz11 hpz11) (dobs_val _ rfl rfl rfl rfl rfl (rd_load rfl (load_cell1 cellInts hcz11)) (dobs_val _ rfl rfl rfl rfl rfl (rd_idx rfl rfl Tryz.underlying55 szInts i rfl (by omega) pz11 hpz11) (dobs_sto _ rfl rfl rfl rfl rfl (rd_store rfl rfl hr14) (dobs_val _ rfl rfl rfl rfl rfl (rd_idx rfl rfl Tryz.underlying55 szInts j rfl (by omega) pz17 hpz17) (dobs_sto _ rfl rfl rfl rfl rfl (rd_store rfl rfl hr20) ?_))))))))
  exact dobs_nil
 clear hv
 refine eo_keep [] trivial (eo_end [] rfl trivial ?_)
 exact⟨rfl,hw4,swp ps i j,Z,⟨own21,(((hC.ext (e3.trans e9)).updQ lt12 uo16 hA.Rr).updQ lt18 uo22 hA.Rr),hPer.swp hi2 hj2⟩,(fun a b _ _=>pr_swap hPer hk hi hj hi2 hj2 a b)⟩
set_option maxHeartbeats 4000000 in
theorem g_stp_on_negate {w:World}{lb n cc:Nat}{RA:Option Addr}{rcap:Nat}{ra:Nat→Option Addr}{rc:Nat→Nat}{ps:List Nat}{Z:Mx}(hlb:lb≤w.heap.size) (hA:Ap2 n RA ra) (hR:Own w lb 22 1 RA n rcap (ps.map (rwv ra rc cc))) (hC:Rcs 17179869184 lb n cc ra rc w Z) (_hn:n≤64) (hcc:cc≤64) (hPer:Per n ps) (_hZ:∀a b,a<n→b<cc→ln (pr Z ps a b)≤1048576){s:Stp}(hk:s.k=2){i:Nat}(hi:s.i=i) (hi2:i<n):
    Calls Tryz.prog 140 #[.agg #[.int .i64 ((i:Nat):Int)],.slice RA n rcap] w (fun e w'=>e= .returned (.tuple #[])∧Bl lb w w'∧∃ps' Z',Lns lb n cc RA rcap ra rc ps' Z' w'∧∀a b,a<n→b<cc→pr Z' ps' a b=stp s (pr Z ps) a b):=by
 have hcap:=hR.rv.le
 refine sx_enter Tryz.func140 rfl (n:=27) rfl (bq rfl) (args:= [.agg #[.int .i64 ((i:Nat):Int)],.slice RA n rcap]) (cw_keep [(0,.agg #[.int .i64 ((i:Nat):Int)]),(1,.slice RA n rcap)] ⟨rfl,rfl,trivial⟩ (sr (wl_box rfl rfl (vs:= [.int .i64 ((i:Nat):Int)]) rfl (by decide) fun g1 v2 nb=>?_)))
 have hb4:=nb.bk
 have ge5:w.heap.size≤g1:=by rw [←nb.at_];exact (Bl.refl hlb).size
 have ne6:∀p:Addr,RA=some p→p.block≠g1:=fun p hp=>by have:=((hR).block p hp).2;have:=nb.at_;omega
 have nr7:∀r,r<n→∀p:Addr,ra r=some p→p.block≠g1:=fun r hr p hp=>by have:=((hC).lt r hr p hp).2;have:=nb.at_;omega
 have e3:=nb.ext
 clear nb
 have hw1:Bl lb w v2:=(Bl.refl hlb).ext e3
 refine ne_ (sr (mv 1 rfl (pf g1 0 rfl (by kernel_rfl) (wl_load rfl rfl (load_cell cellInt hb4 rfl) (by decide) ?_))))
 obtain⟨pz8,hpz8,hcz8⟩:=((hR.ext e3)).rowAt (i:=i) (by omega)
 refine wl_idx rfl rfl rfl Tryz.underlying55 szInts i rfl (by omega) pz8 hpz8 (by decide) (wl_load rfl rfl (load_cell1 cellInts hcz8) (by decide) (pu (v:= .int .i64 ((cc:Nat):Int)) rfl (by kernel_rfl) (mv 1 rfl (ne_ (cw_block ?_)))))
 refine cw_loop (T:=World×Nat×Mx) (fun⟨wr,c,Y⟩=> [(0,.agg #[.int .i64 ((i:Nat):Int)]),(1,.slice RA n rcap),(2,.pointer (some ⟨g1,0,none⟩)),(6,.slice RA n rcap),(7,.pointer (some ⟨g1,0,none⟩)),(8,.int .i64 ((i:Nat):Int)),(9,.pointer (some pz8)),(10,.slice (ra (ps.getD i 0)) cc (rc (ps.getD i 0))),(11,.int .i64 ((cc:Nat):Int)),(12,.int .i64 ((c:Nat):Int))]) (fun⟨wr,c,Y⟩=>wr) (fun⟨wr,c,Y⟩=>(Bl lb w wr)∧(c≤cc)∧(Bk wr g1 89 [.int .i64 ((i:Nat):Int)])∧(Own wr lb 22 1 RA n rcap (ps.map (rwv ra rc cc)))∧(Rcs 17179869184 lb n cc ra rc wr Y)∧(∀a b,a<n→b<cc→Y (ps.getD a 0) b=if a=i∧b<c then-Z (ps.getD i 0) b else Z (ps.getD a 0) b)) (fun⟨wr,c,Y⟩=>cc-c)
  (⟨v2,0,Z⟩:World×Nat×Mx) ⟨hw1,(by omega),hb4,(hR.ext e3),(hC.ext e3),(fun a b _ _=>by rw [if_neg (by omega)])⟩ rfl ⟨rfl,rfl,rfl,rfl,rfl,rfl,rfl,rfl,rfl,rfl,trivial⟩ ?_
 rintro⟨wr,c,Y⟩ ⟨hw1,hi_c,b_g1,o_RAwr,rc_wr,hY⟩
 refine cw_re [(0,.agg #[.int .i64 ((i:Nat):Int)]),(1,.slice RA n rcap),(2,.pointer (some ⟨g1,0,none⟩)),(6,.slice RA n rcap),(7,.pointer (some ⟨g1,0,none⟩)),(8,.int .i64 ((i:Nat):Int)),(9,.pointer (some pz8)),(10,.slice (ra (ps.getD i 0)) cc (rc (ps.getD i 0))),(11,.int .i64 ((cc:Nat):Int)),(12,.int .i64 ((c:Nat):Int))] wr rfl ⟨rfl,rfl,rfl,rfl,rfl,rfl,rfl,rfl,rfl,rfl,trivial⟩ (cw_seq ?_)
 by_cases hcn:c<cc
 · 
  refine cw_region (wl_cmp rfl rfl rfl true (cb_lt_t (a:=c) (b:=cc) rfl rfl (by omega)) (by decide) (ne_ (cw_seq (cw_true rfl (cw_skip (eo_then (cw_seq (cw_block (sr (mv 1 rfl ?_))))))))))
  obtain⟨pz9,sz9,Bz9,nz9,cz9,hpz9,ldz9,hKz9,zz9⟩:=(rc_wr).at (hPer.lt i (by omega)) (show c<cc by omega)
  refine wl_idx rfl rfl rfl elemI aggInt.size c rfl (by omega) pz9 hpz9 (by decide) (wl_load rfl rfl (ldz9 _ (Ext.refl _) _ _ aggInt) (by decide) (wl_alloc rfl (z:= .agg #[F0,S0]) (vs:= [F0,S0]) (fun _=>by kernel_rfl) rfl (by decide) fun g10 v11 nb=>?_))
  have hb13:=nb.bk
  have ge14:w.heap.size≤g10:=by rw [←nb.at_];exact hw1.size
  have q15:g1<g10:=by rw [←nb.at_];exact b_g1.lt
  have ne16:∀p:Addr,RA=some p→p.block≠g10:=fun p hp=>by have:=((o_RAwr).block p hp).2;have:=nb.at_;omega
  have nr17:∀r,r<n→∀p:Addr,ra r=some p→p.block≠g10:=fun r hr p hp=>by have:=((rc_wr).lt r hr p hp).2;have:=nb.at_;omega
  have e12:=nb.ext
  clear nb
  have hw2:Bl lb w v11:=hw1.ext e12
  refine mv 1 rfl (wl_stored rfl rfl rfl aggInt rfl hb13 (bq rfl) rfl [.bool sz9,.slice Bz9 nz9 cz9] rfl fun v18 hb20 u21 hs22=>?_)
  have hw3:Bl lb w v18:=hw2.upd u21 (Nat.le_trans hlb ge14)
  refine ne_ ?_
  obtain⟨pz23,hpz23,hcz23⟩:=(((o_RAwr.ext e12).upd u21 ne16)).rowAt (i:=i) (by omega)
  have L24:ln (-(Y (ps.getD i 0) c))≤17179869184:=(by rw [ln_neg];exact (zz9.ln_le hKz9))
  obtain⟨pz26,sz26,Bz26,nz26,cz26,hpz26,ldz26,hKz26,zz26⟩:=(((rc_wr.ext e12).updT hb13 u21 nr17)).at (hPer.lt i (by omega)) (show c<cc by omega)
  refine cw_draw mix 9 [] [Is (.slice RA n rcap),Is (.pointer (some ⟨g1,0,none⟩)),Is (.int .i64 ((i:Nat):Int)),Is (.pointer (some pz23)),Is (.slice (ra (ps.getD i 0)) cc (rc (ps.getD i 0))),Is (.int .i64 ((c:Nat):Int)),Is (.agg #[.bool sz9,.slice Bz9 nz9 cz9]),ZR w.heap.size (-(Y (ps.getD i 0) c)),Is (.pointer (some pz26))] [[],[],[1],[0,2],[3],[],[],[6],[4,5]] [[],[],[1],[0,1,2],[0,1,2,3],[],[],[6],[0,1,2,3,4,5,6,7],[0,1,2,3,4,5,6,7,8]] rfl
   (obs_cons rfl rfl (hob rfl rfl ?_) (obs_cons rfl rfl (hob rfl rfl ?_) (obs_cons rfl rfl (hob rfl rfl ?_) (obs_cons rfl rfl (hob rfl rfl ?_) (obs_cons rfl rfl (hob rfl rfl ?_) (obs_cons rfl rfl (hob rfl rfl ?_) (obs_cons rfl rfl (hob rfl rfl ?_) (obs_cons rfl rfl (hob rfl rfl ?_) (obs_cons rfl rfl (hob rfl rfl ?_) obs_nil))))))))) ?_
  · 
   intro v27 e28
   have hw4:Bl lb w v27:=hw3.ext e28
   refine deps_nil (mv 1 rfl ?_)
   exact pi_done rfl (Ext.refl _) rfl
  · 
   intro v29 e30
   have hw4:Bl lb w v29:=hw3.ext e30
   refine deps_nil (pf g1 0 rfl (by kernel_rfl) ?_)
   exact pi_done rfl (Ext.refl _) rfl
  · 
   intro v31 e32
   have hw4:Bl lb w v31:=hw3.ext e32
   refine dk rfl rfl (deps_nil (wl_load rfl rfl (load_cell cellInt (((b_g1.ext e12).updN u21 (by omega)).ext e32) rfl) (by decide) ?_))
   exact pi_done rfl (Ext.refl _) rfl
  · 
   intro v38 e39
   have hw4:Bl lb w v38:=hw3.ext e39
   refine dk rfl rfl (dk rfl rfl (deps_nil (wl_idx rfl rfl rfl Tryz.underlying55 szInts i rfl (by omega) pz23 hpz23 (by decide) ?_)))
   exact pi_done rfl (Ext.refl _) rfl
  · 
   intro v50 e51
   have hw4:Bl lb w v50:=hw3.ext e51
   refine dk rfl rfl (deps_nil (wl_load rfl rfl (load_cell1 cellInts (e51.cell hcz23)) (by decide) ?_))
   exact pi_done rfl (Ext.refl _) rfl
  · 
   intro v57 e58
   have hw4:Bl lb w v57:=hw3.ext e58
   refine deps_nil (mv 1 rfl ?_)
   exact pi_done rfl (Ext.refl _) rfl
  · 
   intro v59 e60
   have hw4:Bl lb w v59:=hw3.ext e60
   refine deps_nil (lo aggInt (hb20.ext e60) [.bool sz9,.slice Bz9 nz9 cz9] rfl rfl rfl ?_)
   exact pi_done rfl (Ext.refl _) rfl
  · 
   intro v61 e62
   have hw4:Bl lb w v61:=hw3.ext e62
   refine dk rfl rfl (deps_nil ?_)
   have L68:ln (-(Y (ps.getD i 0) c))≤17179869184:=(by rw [ln_neg];exact (zz9.ln_le hKz9))
   refine wl_call rfl rfl (vs:= [.agg #[.bool sz9,.slice Bz9 nz9 cz9]]) (by kernel_rfl) (by decide) (g_zint_Neg hw4.size (((zz9.ext e12).updT hb13 u21).ext e62).zi (zz9.le (Nat.le_trans (zz9.ln_le hKz9) (by decide)))) ?_
   rintro _ v69 ⟨xr71,rfl,r71,e70⟩
   refine ret_intro ?_
   have hw5:Bl lb w v69:=hw4.ext e70
   obtain⟨s72,A72,n72,c72,rfl,z72⟩:=r71
   exact pi_done rfl e70 ⟨_,_,_,_,rfl,z72⟩
  · 
   intro v73 e74
   have hw4:Bl lb w v73:=hw3.ext e74
   refine dk rfl rfl (dk rfl rfl (deps_nil (wl_idx rfl rfl rfl elemI aggInt.size c rfl (by omega) pz26 hpz26 (by decide) ?_)))
   exact pi_done rfl (Ext.refl _) rfl
  · 
   intro v85 e86
   have hw4:Bl lb w v85:=hw3.ext e86
   refine dk rfl rfl (dk rfl rfl (dk rfl rfl (dk rfl rfl (dk rfl rfl (dk rfl rfl (dk rfl rfl (deps_cons rfl rfl fun x122 y123 h124 e125 f126=>?_)))))))
   obtain⟨s127,A127,n127,c127,rfl,z127⟩:=h124
   have z127:=z127.ext f126
   refine dk rfl rfl (deps_nil ?_)
   have rt133:=(((rc_wr.ext e12).updT hb13 u21 nr17).ext e86)
   obtain⟨us135,own136⟩:=rt133.own (hPer.lt i (by omega))
   refine wl_setR (e:=⟨s127,A127,n127,c127⟩) (z:= -(Y (ps.getD i 0) c)) rfl rfl rfl rt133 (hPer.lt i (by omega)) (show c<cc by omega) hpz26 (Zr.mono z127 (Nat.zero_le _)) (z127.le (lx_ L24 rfl)) fun v134 rc137 uo138=>?_
   have hw5:Bl lb w v134:=hw4.updO uo138 (fun p hp=>(own136.block p hp).1)
   refine wl_nil (eo_np (eo_block_normal (eo_then (cw_region (wl_ar rfl rfl rfl ((c+1:Nat):Int) (ai_add (a:=c) (b:=1) rfl rfl (by omega)) (by decide) (mv 1 rfl (wl_nil (eo_round (⟨v134,c+1,ent Y (ps.getD i 0) c (-(Y (ps.getD i 0) c))⟩:World×Nat×Mx) ⟨hw5,(by omega),((((b_g1.ext e12).updN u21 (by omega)).ext e86).updO uo138 (nr7 (ps.getD i 0) (hPer.lt i (by omega)))),((((o_RAwr.ext e12).upd u21 ne16).ext e86).updO uo138 (fun p q hp hq e=>hA.Rr (ps.getD i 0) (hPer.lt i (by omega)) q p hq hp e.symm)),rc137,(ent_row hPer hi2 hY (by rw [hY i c hi2 hcn,if_neg (by omega)]))⟩ (show cc-(c+1)<cc-c by omega) rfl ⟨rfl,rfl,rfl,rfl,rfl,rfl,rfl,rfl,rfl,rfl,trivial⟩))))))))
 · 
  refine cw_region (wl_cmp rfl rfl rfl false (cb_lt_f (a:=c) (b:=cc) rfl rfl (by omega)) (by decide) (ne_ (cw_seq (cw_false rfl (cw_exit (eo_thenX (eo_loopX (eo_block_here (eo_end [] rfl trivial ?_)))))))))
  exact⟨rfl,hw1,ps,Y,⟨o_RAwr,rc_wr,hPer⟩,(fun a b ha hb=>pr_neg hk hi ((show c=cc by omega)▸hY) a b ha hb)⟩
set_option maxHeartbeats 4000000 in
theorem g_stp_on_add {w:World}{lb n cc:Nat}{RA:Option Addr}{rcap:Nat}{ra:Nat→Option Addr}{rc:Nat→Nat}{ps:List Nat}{Z:Mx}(hlb:lb≤w.heap.size) (hA:Ap2 n RA ra) (hR:Own w lb 22 1 RA n rcap (ps.map (rwv ra rc cc))) (hC:Rcs 17179869184 lb n cc ra rc w Z) (_hn:n≤64) (hcc:cc≤64) (hPer:Per n ps) (hZ:∀a b,a<n→b<cc→ln (pr Z ps a b)≤1048576){s:Stp}(hk:s.k=3){i j:Nat}(hi:s.i=i) (hj:s.j=j) (hi2:i<n) (hj2:j<n) (_hij:i≠j){b_f:Nat}{sf:Bool}{Af:Option Addr}{nf cf:Nat}(hf:Zr w b_f sf Af nf cf s.f) (lf:ln s.f≤1048576):
    Calls Tryz.prog 143 #[.agg #[.int .i64 ((i:Nat):Int),.int .i64 ((j:Nat):Int),.bool sf,.slice Af nf cf],.slice RA n rcap] w (fun e w'=>e= .returned (.tuple #[])∧Bl lb w w'∧∃ps' Z',Lns lb n cc RA rcap ra rc ps' Z' w'∧∀a b,a<n→b<cc→pr Z' ps' a b=stp s (pr Z ps) a b):=by
 have hcap:=hR.rv.le
 refine sx_enter Tryz.func143 rfl (n:=37) rfl (bq rfl) (args:= [.agg #[.int .i64 ((i:Nat):Int),.int .i64 ((j:Nat):Int),.bool sf,.slice Af nf cf],.slice RA n rcap]) (cw_keep [(0,.agg #[.int .i64 ((i:Nat):Int),.int .i64 ((j:Nat):Int),.bool sf,.slice Af nf cf]),(1,.slice RA n rcap)] ⟨rfl,rfl,trivial⟩ (sr (wl_box rfl rfl (vs:= [.int .i64 ((i:Nat):Int),.int .i64 ((j:Nat):Int),.bool sf,.slice Af nf cf]) rfl (by decide) fun g1 v2 nb=>?_)))
 have hb4:=nb.bk
 have ge5:w.heap.size≤g1:=by rw [←nb.at_];exact (Bl.refl hlb).size
 have ne6:∀p:Addr,RA=some p→p.block≠g1:=fun p hp=>by have:=((hR).block p hp).2;have:=nb.at_;omega
 have nr7:∀r,r<n→∀p:Addr,ra r=some p→p.block≠g1:=fun r hr p hp=>by have:=((hC).lt r hr p hp).2;have:=nb.at_;omega
 have e3:=nb.ext
 clear nb
 have hw1:Bl lb w v2:=(Bl.refl hlb).ext e3
 refine ne_ (sr (mv 1 rfl (pf g1 1 rfl (by kernel_rfl) (wl_load rfl rfl (load_cell cellInt hb4 rfl) (by decide) ?_))))
 obtain⟨pz8,hpz8,hcz8⟩:=((hR.ext e3)).rowAt (i:=j) (by omega)
 refine wl_idx rfl rfl rfl Tryz.underlying55 szInts j rfl (by omega) pz8 hpz8 (by decide) (wl_load rfl rfl (load_cell1 cellInts hcz8) (by decide) (pu (v:= .int .i64 ((cc:Nat):Int)) rfl (by kernel_rfl) (mv 1 rfl (ne_ (cw_block ?_)))))
 refine cw_loop (T:=World×Nat×Mx) (fun⟨wr,c,Y⟩=> [(0,.agg #[.int .i64 ((i:Nat):Int),.int .i64 ((j:Nat):Int),.bool sf,.slice Af nf cf]),(1,.slice RA n rcap),(2,.pointer (some ⟨g1,0,none⟩)),(6,.slice RA n rcap),(7,.pointer (some ⟨g1,1,none⟩)),(8,.int .i64 ((j:Nat):Int)),(9,.pointer (some pz8)),(10,.slice (ra (ps.getD j 0)) cc (rc (ps.getD j 0))),(11,.int .i64 ((cc:Nat):Int)),(12,.int .i64 ((c:Nat):Int))]) (fun⟨wr,c,Y⟩=>wr) (fun⟨wr,c,Y⟩=>(Bl lb w wr)∧(c≤cc)∧(Bk wr g1 91 [.int .i64 ((i:Nat):Int),.int .i64 ((j:Nat):Int),.bool sf,.slice Af nf cf])∧(Zr wr b_f sf Af nf cf (s.f))∧(Own wr lb 22 1 RA n rcap (ps.map (rwv ra rc cc)))∧(Rcs 17179869184 lb n cc ra rc wr Y)∧(∀a b,a<n→b<cc→Y (ps.getD a 0) b=if a=i∧b<c then s.f*Z (ps.getD j 0) b+Z (ps.getD i 0) b else Z (ps.getD a 0) b)) (fun⟨wr,c,Y⟩=>cc-c)
  (⟨v2,0,Z⟩:World×Nat×Mx) ⟨hw1,(by omega),hb4,(hf.ext e3),(hR.ext e3),(hC.ext e3),(fun a b _ _=>by rw [if_neg (by omega)])⟩ rfl ⟨rfl,rfl,rfl,rfl,rfl,rfl,rfl,rfl,rfl,rfl,trivial⟩ ?_
 rintro⟨wr,c,Y⟩ ⟨hw1,hi_c,b_g1,z_g1_1,o_RAwr,rc_wr,hY⟩
 refine cw_re [(0,.agg #[.int .i64 ((i:Nat):Int),.int .i64 ((j:Nat):Int),.bool sf,.slice Af nf cf]),(1,.slice RA n rcap),(2,.pointer (some ⟨g1,0,none⟩)),(6,.slice RA n rcap),(7,.pointer (some ⟨g1,1,none⟩)),(8,.int .i64 ((j:Nat):Int)),(9,.pointer (some pz8)),(10,.slice (ra (ps.getD j 0)) cc (rc (ps.getD j 0))),(11,.int .i64 ((cc:Nat):Int)),(12,.int .i64 ((c:Nat):Int))] wr rfl ⟨rfl,rfl,rfl,rfl,rfl,rfl,rfl,rfl,rfl,rfl,trivial⟩ (cw_seq ?_)
 by_cases hcn:c<cc
 · 
  refine cw_region (wl_cmp rfl rfl rfl true (cb_lt_t (a:=c) (b:=cc) rfl rfl (by omega)) (by decide) (ne_ (cw_seq (cw_true rfl (cw_skip (eo_then (cw_seq (cw_block (cw_seq ?_)))))))))
  have hYi:Y (ps.getD i 0) c=Z (ps.getD i 0) c:=by rw [hY i c hi2 hcn,if_neg (by omega)]
  have hYj:Y (ps.getD j 0) c=Z (ps.getD j 0) c:=by rw [hY j c hj2 hcn,if_neg (by omega)]
  have hLi:ln (Y (ps.getD i 0) c)≤1048576:=by rw [hYi];exact hZ i c hi2 hcn
  have hLj:ln (Y (ps.getD j 0) c)≤1048576:=by rw [hYj];exact hZ j c hj2 hcn
  refine cw_region (mv 1 rfl ?_)
  obtain⟨pz9,sz9,Bz9,nz9,cz9,hpz9,ldz9,hKz9,zz9⟩:=(rc_wr).at (hPer.lt j (by omega)) (show c<cc by omega)
  refine wl_idx rfl rfl rfl elemI aggInt.size c rfl (by omega) pz9 hpz9 (by decide) (wl_load rfl rfl (ldz9 _ (Ext.refl _) _ _ aggInt) (by decide) (wl_alloc rfl (z:= .agg #[F0,S0]) (vs:= [F0,S0]) (fun _=>by kernel_rfl) rfl (by decide) fun g10 v11 nb=>?_))
  have hb13:=nb.bk
  have ge14:w.heap.size≤g10:=by rw [←nb.at_];exact hw1.size
  have q15:g1<g10:=by rw [←nb.at_];exact b_g1.lt
  have ne16:∀p:Addr,RA=some p→p.block≠g10:=fun p hp=>by have:=((o_RAwr).block p hp).2;have:=nb.at_;omega
  have nr17:∀r,r<n→∀p:Addr,ra r=some p→p.block≠g10:=fun r hr p hp=>by have:=((rc_wr).lt r hr p hp).2;have:=nb.at_;omega
  have e12:=nb.ext
  clear nb
  have hw2:Bl lb w v11:=hw1.ext e12
  refine mv 1 rfl (wl_stored rfl rfl rfl aggInt rfl hb13 (bq rfl) rfl [.bool sz9,.slice Bz9 nz9 cz9] rfl fun v18 hb20 u21 hs22=>?_)
  have hw3:Bl lb w v18:=hw2.upd u21 (Nat.le_trans hlb ge14)
  refine ne_ ?_
  obtain⟨pz23,hpz23,hcz23⟩:=(((o_RAwr.ext e12).upd u21 ne16)).rowAt (i:=i) (by omega)
  obtain⟨pz24,sz24,Bz24,nz24,cz24,hpz24,ldz24,hKz24,zz24⟩:=(((rc_wr.ext e12).updT hb13 u21 nr17)).at (hPer.lt i (by omega)) (show c<cc by omega)
  have L25:ln (s.f*(Y (ps.getD j 0) c)+(Y (ps.getD i 0) c))≤2097153:=Nat.le_trans (ln_add (ln_mul lf hLj) hLi) (by decide)
  refine cw_draw mix 19 [] [Is (.slice RA n rcap),Is (.pointer (some ⟨g1,0,none⟩)),Is (.int .i64 ((i:Nat):Int)),Is (.pointer (some pz23)),Is (.slice (ra (ps.getD i 0)) cc (rc (ps.getD i 0))),Is (.int .i64 ((c:Nat):Int)),Is (.pointer (some ⟨g1,2,none⟩)),Is (.agg #[.bool sf,.slice Af nf cf]),Is (.agg #[.bool sz9,.slice Bz9 nz9 cz9]),Is (.slice RA n rcap),Is (.pointer (some ⟨g1,0,none⟩)),Is (.int .i64 ((i:Nat):Int)),Is (.pointer (some pz23)),Is (.slice (ra (ps.getD i 0)) cc (rc (ps.getD i 0))),Is (.int .i64 ((c:Nat):Int)),Is (.pointer (some pz24)),Is (.agg #[.bool sz24,.slice Bz24 nz24 cz24]),ZR w.heap.size (s.f*(Y (ps.getD j 0) c)+(Y (ps.getD i 0) c)),Is (.pointer (some pz24))] [[],[],[1],[0,2],[3],[],[],[6],[],[],[],[10],[9,11],[12],[],[13,14],[15],[7,8,16],[4,5]] [[],[],[1],[0,1,2],[0,1,2,3],[],[],[6],[],[],[],[10],[9,10,11],[9,10,11,12],[],[9,10,11,12,13,14],[9,10,11,12,13,14,15],[6,7,8,9,10,11,12,13,14,15,16],[0,1,2,3,4,5,6,7,8,9,10,11,12,13,14,15,16,17],[0,1,2,3,4,5,6,7,8,9,10,11,12,13,14,15,16,17,18]] rfl
   (obs_cons rfl rfl (hob rfl rfl ?_) (obs_cons rfl rfl (hob rfl rfl ?_) (obs_cons rfl rfl (hob rfl rfl ?_) (obs_cons rfl rfl (hob rfl rfl ?_) (obs_cons rfl rfl (hob rfl rfl ?_) (obs_cons rfl rfl (hob rfl rfl ?_) (obs_cons rfl rfl (hob rfl rfl ?_) (obs_cons rfl rfl (hob rfl rfl ?_) (obs_cons rfl rfl (hob rfl rfl ?_) (obs_cons rfl rfl (hob rfl rfl ?_) (obs_cons rfl rfl (hob rfl rfl ?_) (obs_cons rfl rfl (hob rfl rfl ?_) (obs_cons rfl rfl (hob rfl rfl ?_) (obs_cons rfl rfl (hob rfl rfl ?_) (obs_cons rfl rfl (hob rfl rfl ?_) (obs_cons rfl rfl (hob rfl rfl ?_) (obs_cons rfl rfl (hob rfl rfl ?_) (obs_cons rfl rfl (hob rfl rfl ?_) (obs_cons rfl rfl (hob rfl rfl ?_) obs_nil))))))))))))))))))) ?_
  · 
   intro v27 e28
   have hw4:Bl lb w v27:=hw3.ext e28
   refine deps_nil (mv 1 rfl ?_)
   exact pi_done rfl (Ext.refl _) rfl
  · 
   intro v29 e30
   have hw4:Bl lb w v29:=hw3.ext e30
   refine deps_nil (pf g1 0 rfl (by kernel_rfl) ?_)
   exact pi_done rfl (Ext.refl _) rfl
  · 
   intro v31 e32
   have hw4:Bl lb w v31:=hw3.ext e32
   refine dk rfl rfl (deps_nil (wl_load rfl rfl (load_cell cellInt (((b_g1.ext e12).updN u21 (by omega)).ext e32) rfl) (by decide) ?_))
   exact pi_done rfl (Ext.refl _) rfl
  · 
   intro v38 e39
   have hw4:Bl lb w v38:=hw3.ext e39
   refine dk rfl rfl (dk rfl rfl (deps_nil (wl_idx rfl rfl rfl Tryz.underlying55 szInts i rfl (by omega) pz23 hpz23 (by decide) ?_)))
   exact pi_done rfl (Ext.refl _) rfl
  · 
   intro v50 e51
   have hw4:Bl lb w v50:=hw3.ext e51
   refine dk rfl rfl (deps_nil (wl_load rfl rfl (load_cell1 cellInts (e51.cell hcz23)) (by decide) ?_))
   exact pi_done rfl (Ext.refl _) rfl
  · 
   intro v57 e58
   have hw4:Bl lb w v57:=hw3.ext e58
   refine deps_nil (mv 1 rfl ?_)
   exact pi_done rfl (Ext.refl _) rfl
  · 
   intro v59 e60
   have hw4:Bl lb w v59:=hw3.ext e60
   refine deps_nil (pf g1 2 rfl (by kernel_rfl) ?_)
   exact pi_done rfl (Ext.refl _) rfl
  · 
   intro v61 e62
   have hw4:Bl lb w v61:=hw3.ext e62
   refine dk rfl rfl (deps_nil (lo aggInt (((b_g1.ext e12).updN u21 (by omega)).ext e62) [.bool sf,.slice Af nf cf] rfl rfl rfl ?_))
   exact pi_done rfl (Ext.refl _) rfl
  · 
   intro v68 e69
   have hw4:Bl lb w v68:=hw3.ext e69
   refine deps_nil (lo aggInt (hb20.ext e69) [.bool sz9,.slice Bz9 nz9 cz9] rfl rfl rfl ?_)
   exact pi_done rfl (Ext.refl _) rfl
  · 
   intro v70 e71
   have hw4:Bl lb w v70:=hw3.ext e71
   refine deps_nil (mv 1 rfl ?_)
   exact pi_done rfl (Ext.refl _) rfl
  · 
   intro v72 e73
   have hw4:Bl lb w v72:=hw3.ext e73
   refine deps_nil (pf g1 0 rfl (by kernel_rfl) ?_)
   exact pi_done rfl (Ext.refl _) rfl
  · 
   intro v74 e75
   have hw4:Bl lb w v74:=hw3.ext e75
   refine dk rfl rfl (deps_nil (wl_load rfl rfl (load_cell cellInt (((b_g1.ext e12).updN u21 (by omega)).ext e75) rfl) (by decide) ?_))
   exact pi_done rfl (Ext.refl _) rfl
  · 
   intro v81 e82
   have hw4:Bl lb w v81:=hw3.ext e82
   refine dk rfl rfl (dk rfl rfl (deps_nil (wl_idx rfl rfl rfl Tryz.underlying55 szInts i rfl (by omega) pz23 hpz23 (by decide) ?_)))
   exact pi_done rfl (Ext.refl _) rfl
  · 
   intro v93 e94
   have hw4:Bl lb w v93:=hw3.ext e94
   refine dk rfl rfl (deps_nil (wl_load rfl rfl (load_cell1 cellInts (e94.cell hcz23)) (by decide) ?_))
   exact pi_done rfl (Ext.refl _) rfl
  · 
   intro v100 e101
   have hw4:Bl lb w v100:=hw3.ext e101
   refine deps_nil (mv 1 rfl ?_)
   exact pi_done rfl (Ext.refl _) rfl
  · 
   intro v102 e103
   have hw4:Bl lb w v102:=hw3.ext e103
   refine dk rfl rfl (dk rfl rfl (deps_nil (wl_idx rfl rfl rfl elemI aggInt.size c rfl (by omega) pz24 hpz24 (by decide) ?_)))
   exact pi_done rfl (Ext.refl _) rfl
  · 
   intro v114 e115
   have hw4:Bl lb w v114:=hw3.ext e115
   refine dk rfl rfl (deps_nil (wl_load rfl rfl (ldz24 _ e115 _ _ aggInt) (by decide) ?_))
   exact pi_done rfl (Ext.refl _) rfl
  · 
   intro v121 e122
   have hw4:Bl lb w v121:=hw3.ext e122
   refine dk rfl rfl (dk rfl rfl (dk rfl rfl (deps_nil ?_)))
   have L138:ln (s.f*(Y (ps.getD j 0) c)+(Y (ps.getD i 0) c))≤2097153:=Nat.le_trans (ln_add (ln_mul lf hLj) hLi) (by decide)
   refine wl_call rfl rfl (vs:= [.agg #[.bool sf,.slice Af nf cf],.agg #[.bool sz9,.slice Bz9 nz9 cz9],.agg #[.bool sz24,.slice Bz24 nz24 cz24]]) (by kernel_rfl) (by decide) (g_zint_MulAdd hw4.size (((z_g1_1.ext e12).updT hb13 u21).ext e122).zi (z_g1_1.le (lx_ lf rfl)) (((zz9.ext e12).updT hb13 u21).ext e122).zi (zz9.le (lx_ hLj rfl)) (zz24.ext e122).zi (zz24.le (lx_ hLi rfl))) ?_
   rintro _ v139 ⟨xr141,rfl,r141,e140⟩
   refine ret_intro ?_
   have hw5:Bl lb w v139:=hw4.ext e140
   obtain⟨s142,A142,n142,c142,rfl,z142⟩:=r141
   exact pi_done rfl e140 ⟨_,_,_,_,rfl,z142⟩
  · 
   intro v143 e144
   have hw4:Bl lb w v143:=hw3.ext e144
   refine dk rfl rfl (dk rfl rfl (deps_nil (wl_idx rfl rfl rfl elemI aggInt.size c rfl (by omega) pz24 hpz24 (by decide) ?_)))
   exact pi_done rfl (Ext.refl _) rfl
  · 
   intro v155 e156
   have hw4:Bl lb w v155:=hw3.ext e156
   refine dk rfl rfl (dk rfl rfl (dk rfl rfl (dk rfl rfl (dk rfl rfl (dk rfl rfl (dk rfl rfl (dk rfl rfl (dk rfl rfl (dk rfl rfl (dk rfl rfl (dk rfl rfl (dk rfl rfl (dk rfl rfl ?_)))))))))))))
   refine dk rfl rfl (dk rfl rfl (dk rfl rfl (deps_cons rfl rfl fun x242 y243 h244 e245 f246=>?_)))
   obtain⟨s247,A247,n247,c247,rfl,z247⟩:=h244
   have z247:=z247.ext f246
   refine dk rfl rfl (deps_nil ?_)
   have rt253:=(((rc_wr.ext e12).updT hb13 u21 nr17).ext e156)
   obtain⟨us255,own256⟩:=rt253.own (hPer.lt i (by omega))
   refine wl_setR (e:=⟨s247,A247,n247,c247⟩) (z:=s.f*(Y (ps.getD j 0) c)+(Y (ps.getD i 0) c)) rfl rfl rfl rt253 (hPer.lt i (by omega)) (show c<cc by omega) hpz24 (Zr.mono z247 (Nat.zero_le _)) (z247.le (lx_ L25 rfl)) fun v254 rc257 uo258=>?_
   have hw5:Bl lb w v254:=hw4.updO uo258 (fun p hp=>(own256.block p hp).1)
   refine wl_nil (eo_np (eo_block_normal (eo_then (cw_region (wl_ar rfl rfl rfl ((c+1:Nat):Int) (ai_add (a:=c) (b:=1) rfl rfl (by omega)) (by decide) (mv 1 rfl (wl_nil (eo_round (⟨v254,c+1,ent Y (ps.getD i 0) c (s.f*(Y (ps.getD j 0) c)+(Y (ps.getD i 0) c))⟩:World×Nat×Mx) ⟨hw5,(by omega),((((b_g1.ext e12).updN u21 (by omega)).ext e156).updO uo258 (nr7 (ps.getD i 0) (hPer.lt i (by omega)))),((((z_g1_1.ext e12).updT hb13 u21).ext e156).updOT own256 uo258),((((o_RAwr.ext e12).upd u21 ne16).ext e156).updO uo258 (fun p q hp hq e=>hA.Rr (ps.getD i 0) (hPer.lt i (by omega)) q p hq hp e.symm)),rc257,(ent_row hPer hi2 hY (by rw [hYi,hYj]))⟩ (show cc-(c+1)<cc-c by omega) rfl ⟨rfl,rfl,rfl,rfl,rfl,rfl,rfl,rfl,rfl,rfl,trivial⟩))))))))
 · 
  refine cw_region (wl_cmp rfl rfl rfl false (cb_lt_f (a:=c) (b:=cc) rfl rfl (by omega)) (by decide) (ne_ (cw_seq (cw_false rfl (cw_exit (eo_thenX (eo_loopX (eo_block_here (eo_end [] rfl trivial ?_)))))))))
  exact⟨rfl,hw1,ps,Y,⟨o_RAwr,rc_wr,hPer⟩,(fun a b ha hb=>pr_add hk hi hj ((show c=cc by omega)▸hY) a b ha hb)⟩
theorem cellLns:∀w,(isAgg 55).run Tryz.prog w= .ok false w:=fun _=>by kernel_rfl
theorem szLns:∀w,(sizeOf 55).run Tryz.prog w= .ok 1 w:=fun _=>by kernel_rfl
theorem infoL:(Tryz.prog.info? 22).map (fun i=>(i.zero,i.size,i.bytes))=some (some (.slice none 0 0),1,24):=by kernel_rfl
section
variable {Q:Exit→Act→World→Prop}{N:Nat}{l:Fr}{w:World}{ops:Array Oper}{rest:List Oper}{d:Nat}{ty:TypeId}{pos:String}{af:Array Edge}{gd:Option (Nat×Bool)}
theorem wl_on {x y:Operand}{ts:Array TypeId}{b:Nat}{s:Stp}{v:Value}{lb n cc:Nat}{RA:Option Addr}{rcap:Nat}{ra:Nat→Option Addr}{rc:Nat→Nat}{ps:List Nat}{Z:Mx}(hw:guardB ops l gd=some true) (hx:evo l x=some v) (hy:evo l y=some (.slice RA n rcap)) (hv:Mv b s v w) (hfit:s.fit n)
  (hlb:lb≤w.heap.size) (hA:Ap2 n RA ra) (hL:Lns lb n cc RA rcap ra rc ps Z w) (hn:n≤64) (hcc:cc≤64) (hZ:∀a b,a<n→b<cc→ln (pr Z ps a b)≤1048576) (lf:ln s.f≤1048576) (hd:d<N)
  (h:∀w' ps' Z',Bl lb w w'→Lns lb n cc RA rcap ra rc ps' Z' w'→(∀a b,a<n→b<cc→pr Z' ps' a b=stp s (pr Z ps) a b)→wl Tryz.prog ops Q N rest ((d,.tuple #[])::l) w'):
  wl Tryz.prog ops Q N (⟨some d,.call {callee:= .invoke x "trellis/steps.on",args:= #[y],argTypes:=ts},ty,pos,af,gd⟩::rest) l w:=by
 have hys:(#[y]:Array Operand).toList.map (evo l)= [Value.slice RA n rcap].map some:=by simp [hy]
 have fin:∀{e:Ending}{w':World},(e= .returned (.tuple #[])∧Bl lb w w'∧∃ps' Z',Lns lb n cc RA rcap ra rc ps' Z' w'∧∀a b,a<n→b<cc→pr Z' ps' a b=stp s (pr Z ps) a b)→Ret (fun v=>wl Tryz.prog ops Q N rest ((d,v)::l) w') e:=by
  rintro e w' ⟨rfl,hb,ps',Z',hL',hp⟩
  exact ret_intro (h w' ps' Z' hb hL' hp)
 rcases hv with⟨hk,rfl⟩ | ⟨hk,rfl⟩ | ⟨hk,t,B,m,c,rfl,hz⟩ | ⟨h1,h2,h3,rfl⟩
 ·rcases hfit with⟨_,h4,h5⟩ | ⟨h4,_⟩ | ⟨h4,_⟩ <;> try omega
  obtain⟨i,hi,hi2⟩:=insd_nat h4
  obtain⟨j,hj,hj2⟩:=insd_nat h5
  rw [hi,hj] at hx
  exact wl_callI [.slice RA n rcap] hw hx hys (fun _=>by kernel_rfl) hd (g_stp_on_swap hlb hA hL.R hL.C hn hcc hL.per hZ hk hi hj hi2 hj2) fun e w' he=>fin he
 ·rcases hfit with⟨h4,_⟩ | ⟨_,h4⟩ | ⟨h4,_⟩ <;> try omega
  obtain⟨i,hi,hi2⟩:=insd_nat h4
  rw [hi] at hx
  exact wl_callI [.slice RA n rcap] hw hx hys (fun _=>by kernel_rfl) hd (g_stp_on_negate hlb hA hL.R hL.C hn hcc hL.per hZ hk hi hi2) fun e w' he=>fin he
 ·rcases hfit with⟨h4,_⟩ | ⟨h4,_⟩ | ⟨_,h4,h5,h6⟩ <;> try omega
  obtain⟨i,hi,hi2⟩:=insd_nat h4
  obtain⟨j,hj,hj2⟩:=insd_nat h5
  rw [hi,hj] at hx
  exact wl_callI [.slice RA n rcap] hw hx hys (fun _=>by kernel_rfl) hd (g_stp_on_add hlb hA hL.R hL.C hn hcc hL.per hZ hk hi hj hi2 hj2 (fun e=>h6 (by rw [hi,hj,e])) hz lf) fun e w' he=>fin he
 ·rcases hfit with⟨h4,_⟩ | ⟨h4,_⟩ | ⟨h4,_⟩
  ·exact absurd h4 h1
  ·exact absurd h4 h2
  ·exact absurd h4 h3
theorem wl_makeR {x y:Operand}{k:Nat}(hw:guardB ops l gd=some true) (hx:evo l x=some (.int .i64 0)) (hy:evo l y=some (.int .i64 (k:Int))) (hk:k≤1099511627776) (hd:d<N)
  (h:∀g w',w.heap.size=g→Own w' g 22 1 (some ⟨g,0,none⟩) 0 k []→Ext w w'→wl Tryz.prog ops Q N rest ((d,.slice (some ⟨g,0,none⟩) 0 k)::l) w'):wl Tryz.prog ops Q N (⟨some d,.makeSlice 55 x y,ty,pos,af,gd⟩::rest) l w:=by
 obtain⟨i,hi,hz0,hz1,hz2⟩:=info_parts infoL
 have hr:=run_make (P:=Tryz.prog) w 55 22 i _ Tryz.underlying55 hi hz0 .i64 .i64 0 (k:Int) (by omega) (by omega) (by rw [hz2];omega) (by omega)
 rw [Int.toNat_natCast,show (0:Int).toNat=0 from rfl,hz1] at hr
 obtain⟨cs,hcs,hcl⟩:∃cs:List Value,madeCells (Value.slice none 0 0).cells (k*1)=cs.toArray∧cs.length=k*1:=⟨(madeCells (Value.slice none 0 0).cells (k*1)).toList,Array.toArray_toList.symm,by rw [Array.length_toList,size_madeCells]⟩
 rw [hcs] at hr
 refine wl_val hw hd (fun a' ha=>?_) (h _ (w.alloc (.cells cs.toArray 22)) rfl (Or.inr ⟨w.heap.size,cs,rfl,Nat.le_refl _,Bk.new _ _ _,Nat.zero_le _,by rw [len_maxLen];omega,hcl,rfl⟩) ((Ext.refl w).alloc _))
 have e':(Instr.makeSlice 55 (a'.eval x) (a'.eval y)).run Tryz.prog w= .ok (.slice (some ⟨w.heap.size,0,none⟩) 0 k) (w.alloc (.cells cs.toArray 22)):=by rw [ha.ev hx,ha.ev hy];exact hr
 show ((Instr.makeSlice 55 (a'.eval x) (a'.eval y)>>=fun r=>pure (Next.value r):Sem Next)).run Tryz.prog w=_
 rw [Sem.run_bind,e'];rfl
end
structure LiC (B L M gl gm:Nat) (Am:Option Addr):Prop where
 bf:B≤gl
 fm:gm≠gl
 fM:gl<M
 fL:gl<L
 mL:gm<L
 am:∀p,Am=some p→p.block<L
 BL:B≤L
structure LiS (w0:World) (n cc K L M gm:Nat) (Am:Option Addr) (capm:Nat) (xs:List Int) (W:World):Prop where
 ext:Ext w0 W
 sz:L≤W.heap.size
 m:Bk W gm 24 [.int .i64 (n:Int),.int .i64 (cc:Int),.slice Am (n*cc) capm]
 l:Lz none K 0 W M Am (n*cc) capm xs
section
variable {w0:World}{n cc K L M gl gm lr:Nat}{Am:Option Addr}{capm:Nat}{xs:List Int}{W W':World}
theorem LiS.ex (s:LiS w0 n cc K L M gm Am capm xs W) (e:Ext W W'):LiS w0 n cc K L M gm Am capm xs W':=⟨s.ext.trans e,Nat.le_trans s.sz e.size,s.m.ext e,s.l.ext e⟩
theorem LiS.nc (s:LiS w0 n cc K L M gm Am capm xs W) (c:Nc W W') (b:Below L W W') (hB:w0.heap.size≤L):LiS w0 n cc K L M gm Am capm xs W':=⟨⟨s.ext.below.trans (b.mono hB)⟩,Nat.le_trans s.sz c.size,s.m.nc c,s.l.nc c⟩
theorem LiS.updR {A:Option Addr}{T:TypeId}{k c:Nat}{us:List Value}(s:LiS w0 n cc K L M gm Am capm xs W) (hr:w0.heap.size≤lr) (ho:Own W lr T 1 A k c us) (hgm:∀p,A=some p→p.block≠gm) (ham:∀p q,A=some p→Am=some q→p.block≠q.block) (u:UpdO A W W') (hT:45≠T:=by decide):LiS w0 n cc K L M gm Am capm xs W':=
 ⟨u.ext s.ext (fun p hp=>Nat.le_trans hr (ho.block p hp).1),Nat.le_trans s.sz u.size,s.m.updO u hgm,s.l.updQ ho u ham hT⟩
theorem LiS.updF {us:List Value}(s:LiS w0 n cc K L M gm Am capm xs W) (C:LiC w0.heap.size L M gl gm Am) (hb:Bk W gl 55 us) (u:Upd gl W W'):LiS w0 n cc K L M gm Am capm xs W':=
 ⟨u.ext s.ext C.bf,Nat.le_trans s.sz u.size,s.m.updN u C.fm,s.l.updT hb u (fun p hp e=>by have:=(s.l.block p hp).1;have:=C.fM;omega)⟩
end
structure LiM (cc L lr gl gm:Nat) (Am:Option Addr) (X:Mx) (k b:Nat) (RA:Option Addr) (rcap:Nat) (ra:Nat→Option Addr) (rc:Nat→Nat) (W:World):Prop where
 f:Bk W gl 55 [.slice RA k rcap]
 R:Own W lr 22 1 RA k rcap ((List.range k).map (rwv ra rc cc))
 C:Rcs 17179869184 L k cc ra rc W X
 Rr:∀r,r<k→∀p q,RA=some p→ra r=some q→p.block≠q.block
 Rb:∀p,RA=some p→p.block<b
 rb:∀r,r<k→∀p,ra r=some p→p.block<b
 Rl:∀p,RA=some p→p.block≠gl
 Rm:∀p,RA=some p→p.block≠gm
 Ra:∀p q,RA=some p→Am=some q→p.block≠q.block
def LiI (w0:World) (n cc K L M lr gl gm:Nat) (Am:Option Addr) (capm:Nat) (xs:List Int) (X:Mx) (k b:Nat) (W:World):Prop:=
 L≤b∧LiS w0 n cc K L M gm Am capm xs W∧∃RA rcap ra rc,LiM cc L lr gl gm Am X k b RA rcap ra rc W
set_option maxHeartbeats 4000000 in
theorem g_stp_linesOf {w:World}{n cc K:Nat}{Aa:Option Addr}{na capa:Nat}{xs:List Int}(hxa:ZF w Aa na capa K xs) (hn:n≤64) (hcc:cc≤64) (hna:na=n*cc){X:Mx}(hX:En n cc X xs) (hKB:K≤17179869184):
  Calls Tryz.prog 26 #[.agg #[.int .i64 ((n:Nat):Int),.int .i64 ((cc:Nat):Int),.slice Aa na capa]] w (Gv w (fun v w'=>∃RA rcap ra rc,v= .slice RA n rcap∧Ap2 n RA ra∧Lns w.heap.size n cc RA rcap ra rc (List.range n) X w')):=by
 have hlb:w.heap.size≤w.heap.size:=Nat.le_refl _
 have hxa0:=hxa
 obtain⟨msa,hla,hma⟩:=hxa
 refine sx_enterM Tryz.func26 rfl (n:=18) rfl (bq rfl) (args:= [.agg #[.int .i64 ((n:Nat):Int),.int .i64 ((cc:Nat):Int),.slice Aa na capa]]) (cw_keep [(0,.agg #[.int .i64 ((n:Nat):Int),.int .i64 ((cc:Nat):Int),.slice Aa na capa])] ⟨rfl,trivial⟩ (sr (bx [.int .i64 ((n:Nat):Int),.int .i64 ((cc:Nat):Int),.slice Aa na capa] (Ext.refl w) rfl rfl rfl fun g1 v2 hb4 ge5 e3 hw1=>(mv 1 rfl (ne_ (sr (pf g1 0 rfl (by kernel_rfl) (wl_load rfl rfl (load_cell cellInt hb4 rfl) (by decide) (wl_makeR rfl rfl rfl (by omega) (by decide) fun g6 v7 hg8 ow9 e10=>?_)))))))))
 have hgeg6:w.heap.size≤g6:=by rw [←hg8];exact hw1.size
 have hqg1g6:g1<g6:=by rw [←hg8];exact hb4.lt
 clear hg8
 have hw2:=hw1.trans e10
 have hrlg6:=(ow9.block _ rfl).2
 refine wl_alloc rfl (z:= .slice none 0 0) (vs:= [S0]) (fun _=>by kernel_rfl) rfl (by decide) fun g11 v12 nb=>?_
 have hrgg11:g6<g11:=by rw [←nb.at_];exact hrlg6
 have hb14:=nb.bk
 have ge15:w.heap.size≤g11:=by rw [←nb.at_];exact hw2.size
 have q16:g1<g11:=by rw [←nb.at_];exact (hb4.ext e10).lt
 have e13:=nb.ext
 clear nb
 have hw3:=hw2.trans e13
 refine wl_stored1 rfl rfl rfl szLns rfl hb14 (bq rfl) rfl [.slice (some ⟨g6,0,none⟩) 0 n] rfl fun v17 hb19 u20 hs21=>?_
 have hw4:=u20.ext hw3 ge15
 refine ne_ (cw_seq (sr (lo aggMat ((hb4.ext (e10.trans e13)).updN u20 (by omega)) [.int .i64 ((n:Nat):Int),.int .i64 ((cc:Nat):Int),.slice Aa na capa] rfl rfl rfl ?_)))
 have hb_gl0:=hb19
 refine cl (vs:= [.agg #[.int .i64 ((n:Nat):Int),.int .i64 ((cc:Nat):Int),.slice Aa na capa]]) hw4 (g_mat_Lines (hxa0.ext hw4) hn hcc hna hKB) rfl (by kernel_rfl) fun xr24 v22 r24 e23 hw5=>?_
 obtain⟨gm,Am,capm,rfl,hgm,hbm,hzm⟩:=r24
 refine ne_ (cw_block ?_)
 have hf1:=(hb19.ext e23)
 have hr1:=((((ow9.ext e13).upd u20 (fun a ha=>by have e9:=congrArg Addr.block (Option.some.inj ha);simp only at e9;omega)).ext e23)).mono (base':=w.heap.size) (by omega)
 have hgl:g11<v17.heap.size:=(by have:=hb_gl0.lt;omega)
 have C:LiC w.heap.size v22.heap.size v17.heap.size g11 gm Am:=⟨by omega,by omega,hgl,hf1.lt,hbm.lt,fun p hp=>(hzm.block p hp).2,hw5.size⟩
 have S0:LiS w n cc K v22.heap.size v17.heap.size gm Am capm xs v22:=⟨hw5,Nat.le_refl _,by rw [←hna];exact hbm,by rw [←hna];exact hzm⟩
 refine cw_keep [(3,.pointer (some ⟨g11,0,none⟩)),(10,.func (.func 64) #[] #[.pointer (some ⟨gm,0,none⟩)])] ⟨rfl,rfl,trivial⟩ ?_
 refine cw_lines (A:=Am) (cap:=capm) (gm:=gm) (xs:=xs) (X:=X) (K:=K) (r:=n) (c:=cc) (p0:=11) (p1:=12) rfl rfl (by decide) (by decide) hn hcc hKB hX (LiI w n cc K v22.heap.size v17.heap.size w.heap.size g11 gm Am capm xs X) ?_ ?_ ?_ ?_ ?_
  (fun v0 v1=>(5,v1)::(12,v1)::(11,v0):: [(3,.pointer (some ⟨g11,0,none⟩)),(10,.func (.func 64) #[] #[.pointer (some ⟨gm,0,none⟩)])]) ?_ ?_ ?_
 ·rintro k b W ⟨_,S,_⟩
  exact⟨S.m,S.l.zf0⟩
 ·rintro k b V W ⟨hb,S,RA,rcap,ra,rc,R⟩ x
  exact⟨hb,S.ex x,RA,rcap,ra,rc,R.f.ext x,R.R.ext x,R.C.ext x,R.Rr,R.Rb,R.rb,R.Rl,R.Rm,R.Ra⟩
 ·rintro k b W ⟨hb,S,RA,rcap,ra,rc,R⟩
  exact⟨S.sz,S,RA,rcap,ra,rc,R.f,R.R,R.C,R.Rr,fun p hp=>(R.R.block p hp).2,fun r hr p hp=>(R.C.lt r hr p hp).2,R.Rl,R.Rm,R.Ra⟩
 ·rintro k b V W ⟨hb,S,RA,rcap,ra,rc,R⟩ x hbl
  exact⟨hb,S.nc x hbl C.BL,RA,rcap,ra,rc,R.f.nc x,R.R.nc x,R.C.nc x,R.Rr,R.Rb,R.rb,R.Rl,R.Rm,R.Ra⟩
 ·exact⟨Nat.le_refl _,S0,some ⟨g6,0,none⟩,n,fun _=>none,fun _=>0,hf1,hr1,⟨fun r hr=>(by omega),fun r s hr=>(by omega)⟩,fun r hr=>(by omega),fun p hp=>(hr1.block p hp).2,fun r hr=>(by omega),fun p hp=>(by have e9:=congrArg Addr.block (Option.some.inj hp);simp only at e9;omega),fun p hp=>(by have e9:=congrArg Addr.block (Option.some.inj hp);simp only at e9;omega),fun p q hp hq=>(by have e9:=congrArg Addr.block (Option.some.inj hp);simp only at e9;have:=(hzm.block q hq).1;omega)⟩
 ·intro lp v0 v1 Kp W hk
  refine ci_region (Wd.round _ _ _) (then_lets (fun⟨_,_,h⟩=>h)) rfl (mv 1 rfl (wl_nil ?_))
  exact hk
 ·rintro lp k b W LA lc zs Q9 hk ⟨hLb,S,RA,rcap,ra,rc,R⟩ hb hz hze hNL hQ
  refine ci_block (ci_region (Wd.round _ _ _) (block_lets hNL) rfl (wl_load rfl rfl (load_cell cellLns R.f rfl) (by decide) (mv 1 rfl (wl_bslice rfl rfl (by decide) (k:=1) (e:=22) [.slice LA cc lc] (fun _=>by kernel_rfl) fun g w1 nb=>?_))))
  have e1:=nb.ext
  have ho:=R.R.ext e1
  have hlr:w.heap.size≤w1.heap.size:=Nat.le_trans C.BL (Nat.le_trans S.sz e1.size)
  refine wl_appC (z:= .slice none 0 0) (s:=1) (bytes:=24) (e:=22) rfl rfl rfl Tryz.underlying55 infoL rfl (by decide) (by decide) ho hlr [.slice LA cc lc] rfl (one_news3 _ nb.bk) rfl (by omega) (by decide) fun A1 c1 w2 ho1 hc1=>?_
  have hu:UpdO RA w1 w2:=hc1.elim (fun h=>h.2.2) (fun h=>UO.ext (UO.refl _ _) h.1)
  have hf2:=(R.f.ext e1).updO hu R.Rl
  refine wl_stored1 rfl rfl rfl szLns rfl hf2 (bq rfl) rfl [.slice A1 (k+1) c1] rfl fun w3 hf3 u3 hs3=>(wl_nil (eo_block_normal ?_))
  have S3:=((S.ex e1).updR (Nat.le_refl _) ho R.Rm R.Ra hu).updF C hf2 u3
  have hz3:=((hz.ext e1).updQ ho hu (fun p q hp hq e=>by have:=R.Rb p hp;have:=(hz.block q hq).1;omega)).updT hf2 u3 (fun p hp e=>by have:=(hz.block p hp).1;have:=C.fL;omega)
  have hc1':(A1=RA∧c1=rcap)∨∀p,A1=some p→W.heap.size≤p.block:=hc1.imp (fun h=>⟨h.1,h.2.1⟩) (fun h p hp=>Nat.le_trans e1.size (h.2 p hp))
  have hl1:∀p,A1=some p→p.block≠g11:=ApR.kept hc1' R.f.lt R.Rl
  have hm1:∀p,A1=some p→p.block≠gm:=ApR.kept hc1' S.m.lt R.Rm
  have hR3:=ho1.updT hf2 (by decide) u3
  have hC3:=((R.C.ext e1).updQ ho hu R.Rr).updT hf2 u3 (fun r hr p hp e=>by have:=(R.C.lt r hr p hp).1;have:=C.fL;omega)
  rw [rows_succ] at hR3
  refine fun a ha=>hQ _ _ (e1.kf.trans ((hu.kf ho).trans (u3.kf hf2))) ⟨S3.sz,S3,_,_,_,_,hf3,hR3,⟨fun r hr=>?_,fun r s hr hs hrs p q hp hq=>?_⟩,fun r hr p q hp hq=>?_,fun p hp=>(hR3.block p hp).2,fun r hr p hp=>?_,hl1,hm1,fun p q hp hq=>?_⟩
  ·by_cases e:r=k
   ·subst e
    simp only
    exact⟨zs,hz3.mono hKB (Nat.le_refl _) hLb,hze⟩
   ·simp only [if_neg e]
    exact hC3.row r (by omega)
  ·split at hp
   ·split at hq
    ·omega
    ·have:=(hz.block p hp).1;have:=R.rb s (by omega) q hq;omega
   ·split at hq
    ·have:=(hz.block q hq).1;have:=R.rb r (by omega) p hp;omega
    ·exact R.C.dis r s (by omega) (by omega) hrs p q hp hq
  ·rcases hc1' with⟨rfl,rfl⟩ | h
   ·split at hq
    ·have:=R.Rb p hp;have:=(hz.block q hq).1;omega
    ·exact R.Rr r (by omega) p q hp hq
   ·split at hq
    ·have:=h p hp;have:=(hz.block q hq).2;omega
    ·have:=h p hp;have:=(R.C.lt r (by omega) q hq).2;omega
  ·split at hp
   ·exact (hz3.block p hp).2
   ·exact (hC3.lt r (by omega) p hp).2
  ·rcases hc1' with⟨rfl,rfl⟩ | h
   ·exact R.Ra p q hp hq
   ·have:=h p hp;have:=C.am q hq;have:=S.sz;omega
 ·rintro D b W hD ⟨hb,S,RA,rcap,ra,rc,R⟩ hK a ha
  have hm:w.heap.size≤v22.heap.size:=C.BL
  have hnc:=Nc.put (.deferred none) hK rfl
  have hbl:=below_put hD W (Array.getElem?_eq_some_iff.1 hK).1 (.deferred none)
  have S9:=S.nc hnc hbl hm
  have R9:=R.R.nc hnc
  have C9:=(R.C.nc hnc).low hm
  show Code.wp _ (Code.seq _ _) _ _ _
  refine wp_seq ((wpIn_wide (n:=9)).1 (wpIn_region_lit ?_))
  have ea:({a with defers:= [{target:= .collected D,args:= #[]}]}:Act)=dfd [{target:= .collected D,args:= #[]}] a:=by
   unfold dfd;rw [ha.nod];rfl
  rw [ea]
  refine list_df _ _ _ _ (wlW_wl (n:=18) (l:= [(3,.pointer (some ⟨g11,0,none⟩)),(10,.func (.func 64) #[] #[.pointer (some ⟨gm,0,none⟩)])]) ?_ rfl ?_ a ha)
  ·rintro⟨_,_,h⟩
   obtain⟨_,h,_⟩:=h
   cases h
  refine wl_load rfl rfl (load_cell cellLns R.f rfl) (by decide) (mv 1 rfl (wl_nil ?_))
  intro a2 ha2
  show Code.wp _ .ret _ _ _
  refine wp_ret ?_
  show LeavesInM _ _ _ _ _ _ (a2.defers++ [{target:= .collected D,args:= #[]}]) _ _
  rw [ha2.nod]
  show LeavesInM _ _ _ _ _ _ [{target:= .collected D,args:= #[]}] _ _
  unfold LeavesInM LeavesInM
  refine⟨by simp,.inl ⟨_,_,rfl,run_takeDeferred hK,_,results_tmp rfl _ _ _,?_⟩⟩
  refine⟨_,congrArg _ (ha2.val 2 _ rfl),?_,S9.ext⟩
  exact⟨RA,rcap,ra,rc,rfl,⟨R.Rr⟩,R9,C9,(Inv.start (n:=n) (X:=X) (Z:=X) (fun _ _ _ _=>rfl)).per⟩
set_option maxHeartbeats 4000000 in
theorem g_stp_matrix {w:World}{b lb lr n cc:Nat}(hb:b≤w.heap.size) (hlb:lb≤w.heap.size){RA:Option Addr}{rcap:Nat}{ra:Nat→Option Addr}{rc:Nat→Nat}{ps:List Nat}{Z:Mx}(hL:Lns lr n cc RA rcap ra rc ps Z w) (hn:n≤64) (hcc:cc≤64) (hZ:∀a b,a<n→b<cc→ln (pr Z ps a b)≤1048576):
    Calls Tryz.prog 28 #[.slice RA n rcap,.int .i64 ((cc:Nat):Int)] w (Gv w (MQ (n:Int) (cc:Int) (LQ none 1048576 b lb (n*cc) (En n cc (pr Z ps))))):=by
 have hrc:=ix_64 hn hcc
 have hcap:=hL.R.rv.le
 refine sx_enter Tryz.func28 rfl (n:=41) rfl (bq rfl) (args:= [.slice RA n rcap,.int .i64 ((cc:Nat):Int)]) (cw_keep [(0,.slice RA n rcap),(1,.int .i64 ((cc:Nat):Int))] ⟨rfl,rfl,trivial⟩ (sr (al [I0,I0,S0] (Ext.refl w) (fun _=>by kernel_rfl) rfl fun g1 v2 hb4 ge5 e3 hw1=>(ne_ (sr (mv 1 rfl (pu (v:= .int .i64 ((n:Nat):Int)) rfl (by kernel_rfl) (mv 2 rfl (pu (v:= .int .i64 ((n:Nat):Int)) rfl (by kernel_rfl) (mv 1 rfl (wl_ar rfl rfl rfl ((n*cc:Nat):Int) (ai_mul (a:=n) (b:=cc) rfl rfl (by omega)) (by decide) (wl_makeI (k:=n*cc) none 1048576 w.heap.size rfl rfl rfl (by omega) (by decide) fun g6 v7 hg8 lz9 e10=>?_))))))))))))
 have q11:g1<g6:=by rw [←hg8];exact hb4.lt
 have hlbg6:g6≤v7.heap.size:=by have:=(lz9.block _ rfl).2;exact Nat.le_of_lt this
 have hglg6:w.heap.size≤g6:=by rw [←hg8];exact hw1.size
 clear hg8
 have hw2:=hw1.trans e10
 have blk12:=lz9.block
 refine pu (v:= .agg #[.int .i64 ((n:Nat):Int),.int .i64 ((cc:Nat):Int),.slice (some ⟨g6,0,none⟩) 0 (n*cc)]) rfl (by kernel_rfl) (wl_alloc rfl (z:= .agg #[I0,I0,S0]) (vs:= [I0,I0,S0]) (fun _=>by kernel_rfl) rfl (by decide) fun g13 v14 nb=>?_)
 have hb16:=nb.bk
 have ge17:w.heap.size≤g13:=by rw [←nb.at_];exact hw2.size
 have q18:g1<g13:=by rw [←nb.at_];exact (hb4.ext e10).lt
 have ne19:∀p:Addr,(some ⟨g6,0,none⟩)=some p→p.block≠g13:=fun p hp=>by have:=(lz9).block p hp;have:=nb.at_;omega
 have e15:=nb.ext
 clear nb
 have hw3:=hw2.trans e15
 refine so aggMat hb16 [.int .i64 ((n:Nat):Int),.int .i64 ((cc:Nat):Int),.slice (some ⟨g6,0,none⟩) 0 (n*cc)] hw3 ge17 rfl rfl rfl rfl fun v20 hb22 u23 hw4=>(ne_ (cw_seq (sr (mv 1 rfl (pu (v:= .int .i64 ((n:Nat):Int)) rfl (by kernel_rfl) (mv 1 rfl (ne_ (cw_block ?_))))))))
 refine cw_loop (T:=World×Nat×Nat×Option Addr×Nat×List Int) (fun⟨wr,i,q,LA,lc,zs⟩=> [(0,.slice RA n rcap),(1,.int .i64 ((cc:Nat):Int)),(4,.pointer (some ⟨g1,0,none⟩)),(5,.pointer (some ⟨g13,0,none⟩)),(10,.slice RA n rcap),(11,.int .i64 ((n:Nat):Int)),(12,.int .i64 ((cc:Nat):Int)),(13,.slice RA n rcap),(14,.int .i64 ((n:Nat):Int)),(15,.int .i64 ((cc:Nat):Int)),(16,.int .i64 ((n*cc:Nat):Int)),(17,.slice (some ⟨g6,0,none⟩) 0 (n*cc)),(18,.agg #[.int .i64 ((n:Nat):Int),.int .i64 ((cc:Nat):Int),.slice (some ⟨g6,0,none⟩) 0 (n*cc)]),(19,.slice RA n rcap),(20,.int .i64 ((n:Nat):Int)),(21,.int .i64 ((i:Nat):Int))]) (fun⟨wr,i,q,LA,lc,zs⟩=>wr) (fun⟨wr,i,q,LA,lc,zs⟩=>(Ext w wr)∧(i≤n)∧(Bk wr g1 24 [I0,I0,S0])∧(Bk wr g13 24 [.int .i64 ((n:Nat):Int),.int .i64 ((cc:Nat):Int),.slice LA q lc])∧(g6≤wr.heap.size)∧(Lz none 1048576 w.heap.size wr g6 LA q lc zs)∧(∀p:Addr,LA=some p→p.block≠g1)∧(∀p:Addr,LA=some p→p.block≠g13)∧(q=i*cc)∧(Bld cc q (pr Z ps) zs)) (fun⟨wr,i,q,LA,lc,zs⟩=>n-i)
  (⟨v20,0,0,(some ⟨g6,0,none⟩),(n*cc),[]⟩:World×Nat×Nat×Option Addr×Nat×List Int) ⟨hw4,(by omega),((hb4.ext (e10.trans e15)).updN u23 (by omega)),hb22,(Nat.le_trans (Nat.le_trans hlbg6 e15.size) u23.by_.size),((lz9.ext e15).updT hb16 u23 ne19),(show∀p:Addr,(some ⟨g6,0,none⟩)=some p→p.block≠g1 from fun p hp=>by have:=blk12 p hp;omega),ne19,(Nat.zero_mul cc).symm,(fun k h=>absurd h (Nat.not_lt_zero k))⟩ rfl ⟨rfl,rfl,rfl,rfl,rfl,rfl,rfl,rfl,rfl,rfl,rfl,rfl,rfl,rfl,rfl,rfl,trivial⟩ ?_
 rintro⟨wr,i,q,LA,lc,zs⟩ ⟨hw1,hi_i,b_g1,b_g13,l_LAb,l_LA,l_LA_g1,l_LA_g13,hq,hz⟩
 refine cw_re [(0,.slice RA n rcap),(1,.int .i64 ((cc:Nat):Int)),(4,.pointer (some ⟨g1,0,none⟩)),(5,.pointer (some ⟨g13,0,none⟩)),(10,.slice RA n rcap),(11,.int .i64 ((n:Nat):Int)),(12,.int .i64 ((cc:Nat):Int)),(13,.slice RA n rcap),(14,.int .i64 ((n:Nat):Int)),(15,.int .i64 ((cc:Nat):Int)),(16,.int .i64 ((n*cc:Nat):Int)),(17,.slice (some ⟨g6,0,none⟩) 0 (n*cc)),(18,.agg #[.int .i64 ((n:Nat):Int),.int .i64 ((cc:Nat):Int),.slice (some ⟨g6,0,none⟩) 0 (n*cc)]),(19,.slice RA n rcap),(20,.int .i64 ((n:Nat):Int)),(21,.int .i64 ((i:Nat):Int))] wr rfl ⟨rfl,rfl,rfl,rfl,rfl,rfl,rfl,rfl,rfl,rfl,rfl,rfl,rfl,rfl,rfl,rfl,trivial⟩ ?_
 have blk25:=l_LA.block
 refine cw_seq ?_
 by_cases hir:i<n
 · 
  refine cw_region (wl_cmp rfl rfl rfl true (cb_lt_t (a:=i) (b:=n) rfl rfl (by omega)) (by decide) (ne_ (cw_seq (cw_true rfl (cw_skip (eo_then (cw_seq (cw_block (sr ?_)))))))))
  obtain⟨pz26,hpz26,hcz26⟩:=hL.R.rowAt (i:=i) (by omega)
  refine wl_idx rfl rfl rfl Tryz.underlying55 szInts i rfl (by omega) pz26 hpz26 (by decide) (wl_load rfl rfl (load_cell1 cellInts (hw1.cell hcz26)) (by decide) (mv 1 rfl (ne_ (sr (mv 1 rfl (pu (v:= .int .i64 ((cc:Nat):Int)) rfl (by kernel_rfl) (mv 1 rfl (ne_ (cw_block ?_)))))))))
  refine cw_loop (T:=World×Nat×Nat×Option Addr×Nat×List Int) (fun⟨wi,j,p,LB,ld,ys⟩=> [(0,.slice RA n rcap),(1,.int .i64 ((cc:Nat):Int)),(4,.pointer (some ⟨g1,0,none⟩)),(5,.pointer (some ⟨g13,0,none⟩)),(7,.slice (ra (ps.getD i 0)) cc (rc (ps.getD i 0))),(10,.slice RA n rcap),(11,.int .i64 ((n:Nat):Int)),(12,.int .i64 ((cc:Nat):Int)),(13,.slice RA n rcap),(14,.int .i64 ((n:Nat):Int)),(15,.int .i64 ((cc:Nat):Int)),(16,.int .i64 ((n*cc:Nat):Int)),(17,.slice (some ⟨g6,0,none⟩) 0 (n*cc)),(18,.agg #[.int .i64 ((n:Nat):Int),.int .i64 ((cc:Nat):Int),.slice (some ⟨g6,0,none⟩) 0 (n*cc)]),(19,.slice RA n rcap),(20,.int .i64 ((n:Nat):Int)),(21,.int .i64 ((i:Nat):Int)),(22,.bool true),(23,.pointer (some pz26)),(24,.slice (ra (ps.getD i 0)) cc (rc (ps.getD i 0))),(25,.slice (ra (ps.getD i 0)) cc (rc (ps.getD i 0))),(26,.int .i64 ((cc:Nat):Int)),(27,.int .i64 ((j:Nat):Int))]) (fun⟨wi,j,p,LB,ld,ys⟩=>wi) (fun⟨wi,j,p,LB,ld,ys⟩=>(Ext w wi)∧(j≤cc)∧(Bk wi g1 24 [I0,I0,S0])∧(Bk wi g13 24 [.int .i64 ((n:Nat):Int),.int .i64 ((cc:Nat):Int),.slice LB p ld])∧(g6≤wi.heap.size)∧(Lz none 1048576 w.heap.size wi g6 LB p ld ys)∧(∀p:Addr,LB=some p→p.block≠g1)∧(∀p:Addr,LB=some p→p.block≠g13)∧(p=i*cc+j)∧(Bld cc p (pr Z ps) ys)) (fun⟨wi,j,p,LB,ld,ys⟩=>cc-j)
   (⟨wr,0,q,LA,lc,zs⟩:World×Nat×Nat×Option Addr×Nat×List Int) ⟨hw1,(by omega),b_g1,b_g13,l_LAb,l_LA,l_LA_g1,l_LA_g13,(by omega),hz⟩ rfl ⟨rfl,rfl,rfl,rfl,rfl,rfl,rfl,rfl,rfl,rfl,rfl,rfl,rfl,rfl,rfl,rfl,rfl,rfl,rfl,rfl,rfl,rfl,rfl,trivial⟩ ?_
  rintro⟨wi,j,p,LB,ld,ys⟩ ⟨hw1,hi_j,b_g1,b_g13,l_LBb,l_LB,l_LB_g1,l_LB_g13,hq_,hz_⟩
  refine cw_re [(0,.slice RA n rcap),(1,.int .i64 ((cc:Nat):Int)),(4,.pointer (some ⟨g1,0,none⟩)),(5,.pointer (some ⟨g13,0,none⟩)),(7,.slice (ra (ps.getD i 0)) cc (rc (ps.getD i 0))),(10,.slice RA n rcap),(11,.int .i64 ((n:Nat):Int)),(12,.int .i64 ((cc:Nat):Int)),(13,.slice RA n rcap),(14,.int .i64 ((n:Nat):Int)),(15,.int .i64 ((cc:Nat):Int)),(16,.int .i64 ((n*cc:Nat):Int)),(17,.slice (some ⟨g6,0,none⟩) 0 (n*cc)),(18,.agg #[.int .i64 ((n:Nat):Int),.int .i64 ((cc:Nat):Int),.slice (some ⟨g6,0,none⟩) 0 (n*cc)]),(19,.slice RA n rcap),(20,.int .i64 ((n:Nat):Int)),(21,.int .i64 ((i:Nat):Int)),(22,.bool true),(23,.pointer (some pz26)),(24,.slice (ra (ps.getD i 0)) cc (rc (ps.getD i 0))),(25,.slice (ra (ps.getD i 0)) cc (rc (ps.getD i 0))),(26,.int .i64 ((cc:Nat):Int)),(27,.int .i64 ((j:Nat):Int))] wi rfl ⟨rfl,rfl,rfl,rfl,rfl,rfl,rfl,rfl,rfl,rfl,rfl,rfl,rfl,rfl,rfl,rfl,rfl,rfl,rfl,rfl,rfl,rfl,rfl,trivial⟩ ?_
  have blk27:=l_LB.block
  refine cw_seq ?_
  have hic:=ix_64 (show i≤64 by omega) hcc
  by_cases hjc:j<cc
  · 
   refine cw_region (wl_cmp rfl rfl rfl true (cb_lt_t (a:=j) (b:=cc) rfl rfl (by omega)) (by decide) (ne_ (cw_seq (cw_true rfl (cw_skip (eo_then (cw_seq (cw_block (sr ?_)))))))))
   obtain⟨pz28,sz28,Bz28,nz28,cz28,hpz28,ldz28,hKz28,zz28⟩:=hL.C.at (hL.per.lt i (by omega)) (show j<cc by omega)
   refine wl_idx rfl rfl rfl elemI aggInt.size j rfl (by omega) pz28 hpz28 (by decide) (wl_load rfl rfl (ldz28 _ hw1 _ _ aggInt) (by decide) (wl_alloc rfl (z:= .agg #[F0,S0]) (vs:= [F0,S0]) (fun _=>by kernel_rfl) rfl (by decide) fun g29 v30 nb=>?_))
   have hb32:=nb.bk
   have ge33:w.heap.size≤g29:=by rw [←nb.at_];exact hw1.size
   have q34:g13<g29:=by rw [←nb.at_];exact b_g13.lt
   have ne35:∀p:Addr,LB=some p→p.block≠g29:=fun p hp=>by have:=(l_LB).block p hp;have:=nb.at_;omega
   have e31:=nb.ext
   clear nb
   have hw2:=hw1.trans e31
   refine so aggInt hb32 [.bool sz28,.slice Bz28 nz28 cz28] hw2 ge33 rfl rfl rfl rfl fun v36 hb38 u39 hw3=>(ne_ ?_)
   refine cw_draw mix 5 [] [Is (.pointer (some ⟨g13,2,none⟩)),Is (.slice LB p ld),Is (.agg #[.bool sz28,.slice Bz28 nz28 cz28]),ZR w.heap.size ((pr Z ps i j)),B1 w.heap.size (pr Z ps i j)] [[],[0],[],[2],[3]] [[],[0],[],[2],[2,3],[0,1,2,3,4],[0,1,2,3,4,5],[0,1,2,3,4,5,6]] rfl
    (obs_cons rfl rfl (hob rfl rfl ?_) (obs_cons rfl rfl (hob rfl rfl ?_) (obs_cons rfl rfl (hob rfl rfl ?_) (obs_cons rfl rfl (hob rfl rfl ?_) (obs_cons rfl rfl (hob rfl rfl ?_) obs_nil))))) ?_
   · 
    exact fun _ _=>deps_nil (pf g13 2 rfl (by kernel_rfl) (pi_done rfl (Ext.refl _) rfl))
   · 
    exact fun _ e46=>dk rfl rfl (deps_nil (wl_load rfl rfl (load_cell cellInts (((b_g13.ext e31).updN u39 (by omega)).ext e46) rfl) (by decide) (pi_done rfl (Ext.refl _) rfl)))
   · 
    exact fun _ e53=>deps_nil (lo aggInt (hb38.ext e53) [.bool sz28,.slice Bz28 nz28 cz28] rfl rfl rfl (pi_done rfl (Ext.refl _) rfl))
   · 
    intro v54 e55
    have hw4:=hw3.trans e55
    refine dk rfl rfl (deps_nil (cl (vs:= [.agg #[.bool sz28,.slice Bz28 nz28 cz28]]) hw4 (g_zint_Least hw4.size (((zz28.ext (hw1.trans e31)).updT hb32 u39).ext e55).zi (zz28.le (Nat.le_trans (hZ i j (by omega) (by omega)) (by decide)))) rfl (by kernel_rfl) fun xr63 v61 r63 e62 hw5=>?_))
    obtain⟨s64,A64,n64,c64,rfl,z64⟩:=r63
    exact pi_done rfl e62 ⟨_,_,_,_,rfl,z64⟩
   · 
    intro v65 e66
    have hw4:=hw3.trans e66
    refine deps_cons rfl rfl fun x67 y68 h69 e70 f71=>?_
    obtain⟨s72,A72,n72,c72,rfl,z72⟩:=h69
    have z72:=z72.ext f71
    refine deps_nil (wl_bslice rfl rfl (by decide) (k:=1) (e:=41) [.bool s72,.slice A72 n72 c72] (fun _=>by kernel_rfl) fun g73 v74 nb=>?_)
    have hb76:=nb.bk
    have ge77:w.heap.size≤g73:=by rw [←nb.at_];exact hw4.size
    have q78:g29<g73:=by rw [←nb.at_];exact (hb38.ext e66).lt
    have ne79:∀p:Addr,LB=some p→p.block≠g73:=fun p hp=>by have:=((((l_LB.ext e31).updT hb32 u39 ne35).ext e66)).block p hp;have:=nb.at_;omega
    have e75:=nb.ext
    clear nb
    have hw5:=hw4.trans e75
    exact pi_done rfl e75 ⟨_,_,_,_,_,rfl,hb76,(z72.ext e75)⟩
   · 
    intro v80 e81
    have hw4:=hw3.trans e81
    refine dk rfl rfl (dk rfl rfl (dk rfl rfl (deps_cons rfl rfl fun x97 y98 h99 e100 f101=>?_)))
    obtain⟨s102,A102,n102,c102,rfl,z102⟩:=h99
    have z102:=z102.ext f101
    refine deps_cons rfl rfl fun x103 y104 h105 e106 f107=>?_
    obtain⟨gb108,s108,A108,n108,c108,rfl,hbs108,z108⟩:=h105
    have hbs108:=hbs108.ext f107
    have z108:=z108.ext f107
    refine deps_nil ?_
    have lt114:=(((l_LB.ext e31).updT hb32 u39 ne35).ext e81)
    obtain⟨us112,own113⟩:=lt114.own
    refine wl_appI (e:=⟨s108,A108,n108,c108⟩) (z:=(pr Z ps i j)) rfl rfl rfl lt114 (Nat.le_trans (Nat.le_trans (Nat.le_trans l_LBb e31.size) u39.by_.size) e81.size) hbs108 (Or.inl z108) (z108.le (Nat.le_trans (hZ i j (by omega) (by omega)) (by decide))) (by omega) (by decide) fun A115 c116 v109 lz110 uo111 kp117=>?_
    have hw5:=uo111.ext hw4 (fun p hp=>by have:=blk27 p hp;omega)
    have hlblz110:g6≤v109.heap.size:=Nat.le_trans (Nat.le_trans (Nat.le_trans (Nat.le_trans l_LBb e31.size) u39.by_.size) e81.size) uo111.size
    have ne118:=kept_ne kp117 (((b_g1.ext e31).updN u39 (by omega)).ext e81).lt l_LB_g1
    have ne119:=kept_ne kp117 (((b_g13.ext e31).updN u39 (by omega)).ext e81).lt l_LB_g13
    have ne120:=kept_ne kp117 (hb38.ext e81).lt ne35
    have blk121:=lz110.block
    refine pf g13 2 rfl (by kernel_rfl) ?_
    have hb123:=((((b_g13.ext e31).updN u39 (by omega)).ext e81).updO uo111 l_LB_g13)
    refine wl_stored1 rfl rfl rfl szInts rfl hb123 (bq rfl) rfl [.int .i64 ((n:Nat):Int),.int .i64 ((cc:Nat):Int),.slice A115 (p+1) c116] rfl fun v122 hb124 u125 hs126=>?_
    have hw6:=u125.ext hw5 ge17
    refine wl_nil (eo_np (eo_block_normal (eo_then (cw_region (wl_ar rfl rfl rfl ((j+1:Nat):Int) (ai_add (a:=j) (b:=1) rfl rfl (by omega)) (by decide) (mv 1 rfl (wl_nil (eo_round (⟨v122,j+1,p+1,A115,c116,ys++ [(pr Z ps i j)]⟩:World×Nat×Nat×Option Addr×Nat×List Int) ⟨hw6,(by omega),(((((b_g1.ext e31).updN u39 (by omega)).ext e81).updO uo111 l_LB_g1).updN u125 (by omega)),hb124,(Nat.le_trans hlblz110 u125.by_.size),(lz110.updT hb123 u125 ne119),ne118,ne119,(by omega),(hz_.step hq_ hjc l_LB.len)⟩ (show cc-(j+1)<cc-j by omega) rfl ⟨rfl,rfl,rfl,rfl,rfl,rfl,rfl,rfl,rfl,rfl,rfl,rfl,rfl,rfl,rfl,rfl,rfl,rfl,rfl,rfl,rfl,rfl,rfl,trivial⟩))))))))
  · 
   refine cw_region (wl_cmp rfl rfl rfl false (cb_lt_f (a:=j) (b:=cc) rfl rfl (by omega)) (by decide) (ne_ (cw_seq (cw_false rfl (cw_exit (eo_thenX (eo_loopX (eo_block_here (eo_block_normal (eo_then (cw_region (wl_ar rfl rfl rfl ((i+1:Nat):Int) (ai_add (a:=i) (b:=1) rfl rfl (by omega)) (by decide) (mv 1 rfl ?_)))))))))))))
   refine wl_nil (eo_round (⟨wi,i+1,p,LB,ld,ys⟩:World×Nat×Nat×Option Addr×Nat×List Int) ⟨hw1,(by omega),b_g1,b_g13,l_LBb,l_LB,l_LB_g1,l_LB_g13,(show p=(i+1)*cc by rw [Nat.succ_mul];omega),hz_⟩ (show n-(i+1)<n-i by omega) rfl ⟨rfl,rfl,rfl,rfl,rfl,rfl,rfl,rfl,rfl,rfl,rfl,rfl,rfl,rfl,rfl,rfl,trivial⟩)
 · 
  refine cw_region (wl_cmp rfl rfl rfl false (cb_lt_f (a:=i) (b:=n) rfl rfl (by omega)) (by decide) (ne_ (cw_seq (cw_false rfl (cw_exit (eo_thenX (eo_loopX (eo_block_here (eo_then (sr (lo aggMat b_g13 [.int .i64 ((n:Nat):Int),.int .i64 ((cc:Nat):Int),.slice LA q lc] rfl rfl rfl ?_)))))))))))
  have hb128:=b_g1
  refine so aggMat hb128 [.int .i64 ((n:Nat):Int),.int .i64 ((cc:Nat):Int),.slice LA q lc] hw1 ge5 rfl rfl rfl rfl fun v127 hb129 u130 hw2=>(ne_ (cw_ret (eo_ret [.agg #[.int .i64 ((n:Nat):Int),.int .i64 ((cc:Nat):Int),.slice LA q lc]] rfl ⟨⟨_,rfl,load_agg aggMat hb129 [.int .i64 ((n:Nat):Int),.int .i64 ((cc:Nat):Int),.slice LA q lc] rfl (bq rfl) rfl⟩,trivial⟩ ?_)))
  have hqr:q=n*cc:=by rw [hq,show i=n by omega]
  subst hqr
  exact⟨_,rfl,⟨_,rfl,_,_,_,rfl,((l_LA.updT hb128 u130 l_LA_g1)).mono (Nat.le_refl _) hb (Nat.le_trans hlb hglg6),hz.en rfl⟩,hw2⟩
theorem Lns.ext {lb n cc:Nat}{RA:Option Addr}{rcap:Nat}{ra:Nat→Option Addr}{rc:Nat→Nat}{ps:List Nat}{Z:Mx}{w w':World}(h:Lns lb n cc RA rcap ra rc ps Z w) (e:Ext w w'):Lns lb n cc RA rcap ra rc ps Z w':=⟨h.R.ext e,h.C.ext e,h.per⟩
theorem Lns.updT {lb n cc:Nat}{RA:Option Addr}{rcap:Nat}{ra:Nat→Option Addr}{rc:Nat→Nat}{ps:List Nat}{Z:Mx}{w w':World}{g:Nat}{us:List Value}(h:Lns lb n cc RA rcap ra rc ps Z w) (hb:Bk w g 58 us) (e:Upd g w w') (h1:∀p:Addr,RA=some p→p.block≠g) (h2:∀r,r<n→∀p:Addr,ra r=some p→p.block≠g):Lns lb n cc RA rcap ra rc ps Z w':=⟨h.R.upd e h1,h.C.updT hb e h2,h.per⟩
set_option maxHeartbeats 4000000 in
set_option maxRecDepth 20000 in
theorem g_stp_Rows {w:World}{b lb:Nat}(hb:b≤w.heap.size) (hlb:lb≤w.heap.size){n cc Ka:Nat}{X:Mx}{Aa:Option Addr}{na capa:Nat}{xs:List Int}(hxa:ZF w Aa na capa 1048576 xs) (hna:na=n*cc) (hn:n≤64) (hcc:cc≤64) (hX:En n cc X xs){As:Option Addr}{m caps:Nat}{ss:List Stp}{ms:List Nat}(hS:Sl w As m ss ms) (hM:∀i,ms.getD i 0≤1048576) (hm:m≤1048576) (hall:∀i,i<m→(ss.getD i Stp.z).fit n) (hXa:∀a b,a<n→b<cc→ln (X a b)≤Ka) (hKa:Ka+(m+ms.sum)≤1048576):
    Calls Tryz.prog 6 #[.agg #[.int .i64 ((n:Nat):Int),.int .i64 ((cc:Nat):Int),.slice Aa na capa],.slice As m caps] w (Gv w (T2 (MQ ((n:Nat):Int) ((cc:Nat):Int) (LQ none 1048576 b lb (n*cc) (En n cc (stps ss X)))) (Is (.int .i64 0)))):=by
 have hxa0:=hxa
 obtain⟨msa,hla,hma⟩:=hxa
 have hmi:∀i,i<m→ln (ss.getD i Stp.z).f≤ms.getD i 0:=fun i hi=>by obtain⟨_,_,_,_,_,_,hz⟩:=hS.get i hi;exact hz.ln
 refine sx_enter Tryz.func6 rfl (n:=46) rfl (bq rfl) (args:= [.agg #[.int .i64 ((n:Nat):Int),.int .i64 ((cc:Nat):Int),.slice Aa na capa],.slice As m caps]) (cw_keep [(0,.agg #[.int .i64 ((n:Nat):Int),.int .i64 ((cc:Nat):Int),.slice Aa na capa]),(1,.slice As m caps)] ⟨rfl,rfl,trivial⟩ (sr (bx [.int .i64 ((n:Nat):Int),.int .i64 ((cc:Nat):Int),.slice Aa na capa] (Ext.refl w) rfl rfl rfl fun g1 v2 hb4 ge5 e3 hw1=>(alq [I0,I0,S0] hw1 hb4.lt (fun _=>by kernel_rfl) rfl fun g6 v7 hb9 ge10 q11 e8 hw2=>(mv 1 rfl (ne_ (cw_seq (sr (lo aggMat (hb4.ext e8) [.int .i64 ((n:Nat):Int),.int .i64 ((cc:Nat):Int),.slice Aa na capa] rfl rfl rfl (cl (vs:= [.agg #[.int .i64 ((n:Nat):Int),.int .i64 ((cc:Nat):Int),.slice Aa na capa]]) hw2 (g_mat_Check_yes (snd_mk hn hcc hna)) rfl (by kernel_rfl) fun xr14 v12 r14 e13 hw3=>?_))))))))))
 obtain rfl:=r14
 refine mv 1 rfl (ne_ (sr (mv 1 rfl (wl_cmp rfl rfl rfl false (by decide) (by decide) (ne_ (cw_false rfl (cw_skip (eo_then (cw_seq (sr (pf g1 0 rfl (by kernel_rfl) (wl_load rfl rfl (load_cell cellInt (hb4.ext (e8.trans e13)) rfl) (by decide) (mv 1 rfl ?_)))))))))))))
 refine cl (vs:= [.int .i64 ((n:Nat):Int),.slice As m caps]) hw3 (g_stp_Check_ok hn (hS.ext hw3) hM hm hall) rfl (by kernel_rfl) fun xr17 v15 r17 e16 hw4=>?_
 obtain⟨_,_,rfl,rfl,rfl⟩:=r17
 refine mv 1 rfl (pu (v:= .int .i64 (-1)) rfl (by kernel_rfl) (pu (v:= .int .i64 0) rfl (by kernel_rfl) (mv 2 rfl (ne_ (sr (mv 1 rfl (wl_cmp rfl rfl rfl false (by decide) (by decide) (ne_ (cw_false rfl (cw_skip (eo_then (sr (lo aggMat (hb4.ext (e8.trans (e13.trans e16))) [.int .i64 ((n:Nat):Int),.int .i64 ((cc:Nat):Int),.slice Aa na capa] rfl rfl rfl ?_)))))))))))))
 obtain⟨lb9,hlb9⟩:∃l,l=v15.heap.size:=⟨_,rfl⟩
 have hlow:w.heap.size≤lb9:=by rw [hlb9];exact hw4.size
 have hlo_g1:g1<lb9:=by rw [hlb9];exact ((hb4.ext (e8.trans (e13.trans e16)))).lt
 have hlo_g6:g6<lb9:=by rw [hlb9];exact ((hb9.ext (e13.trans e16))).lt
 refine wl_call rfl rfl (vs:= [.agg #[.int .i64 ((n:Nat):Int),.int .i64 ((cc:Nat):Int),.slice Aa na capa]]) (by kernel_rfl) (by decide) (g_stp_linesOf (K:=1048576) ((show ZF w _ _ _ _ _ from⟨msa,hla,hma⟩).ext hw4) hn hcc hna hX (by decide)) ?_
 rintro _ wli ⟨_,rfl,⟨RA,rcap,ra,rc,rfl,hA,hL0⟩,eli⟩
 refine ret_intro ?_
 rw [←hlb9] at hL0
 have hlb0:lb9≤wli.heap.size:=by rw [hlb9];exact eli.size
 have hw5:=hw4.trans eli
 refine mv 1 rfl (ne_ (cw_seq (sr (mv 1 rfl (pu (v:= .int .i64 ((m:Nat):Int)) rfl (by kernel_rfl) (mv 1 rfl (ne_ (cw_block ?_))))))))
 refine cw_loop (T:=World×Nat×List Nat×Mx) (fun⟨wr,i,ps,Z⟩=> [(0,.agg #[.int .i64 ((n:Nat):Int),.int .i64 ((cc:Nat):Int),.slice Aa na capa]),(1,.slice As m caps),(2,.pointer (some ⟨g1,0,none⟩)),(4,.pointer (some ⟨g6,0,none⟩)),(5,.int .i64 0),(6,.int .i64 0),(8,.int .i64 0),(9,.slice RA n rcap),(12,.agg #[.int .i64 ((n:Nat):Int),.int .i64 ((cc:Nat):Int),.slice Aa na capa]),(13,.int .i64 0),(14,.int .i64 0),(15,.bool false),(18,.tuple #[.int .i64 (-1),I0]),(19,.pointer (some ⟨g1,0,none⟩)),(20,.int .i64 ((n:Nat):Int)),(21,.slice As m caps),(22,.tuple #[.int .i64 (-1),I0]),(23,.int .i64 (-1)),(24,.int .i64 0),(25,.int .i64 0),(26,.bool false),(29,.agg #[.int .i64 ((n:Nat):Int),.int .i64 ((cc:Nat):Int),.slice Aa na capa]),(30,.slice RA n rcap),(31,.slice As m caps),(32,.int .i64 ((m:Nat):Int)),(33,.int .i64 ((i:Nat):Int))]) (fun⟨wr,i,ps,Z⟩=>wr) (fun⟨wr,i,ps,Z⟩=>(Ext w wr)∧(i≤m)∧(Bk wr g1 24 [.int .i64 ((n:Nat):Int),.int .i64 ((cc:Nat):Int),.slice Aa na capa])∧(Bk wr g6 24 [I0,I0,S0])∧(lb9≤wr.heap.size)∧(Lns lb9 n cc RA rcap ra rc ps Z wr)∧(∀a b,a<n→b<cc→pr Z ps a b=stps (ss.take i) X a b)) (fun⟨wr,i,ps,Z⟩=>m-i)
  (⟨wli,0,(List.range n),X⟩:World×Nat×List Nat×Mx) ⟨hw5,(by omega),(hb4.ext (e8.trans (e13.trans (e16.trans eli)))),(hb9.ext (e13.trans (e16.trans eli))),hlb0,hL0,(fun a b ha _=>pr_range X a b ha)⟩ rfl ⟨rfl,rfl,rfl,rfl,rfl,rfl,rfl,rfl,rfl,rfl,rfl,rfl,rfl,rfl,rfl,rfl,rfl,rfl,rfl,rfl,rfl,rfl,rfl,rfl,rfl,rfl,trivial⟩ ?_
 rintro⟨wr,i,ps,Z⟩ ⟨hw1,hi_i,b_g1,b_g6,hlbw,hL,hpr⟩
 refine cw_re [(0,.agg #[.int .i64 ((n:Nat):Int),.int .i64 ((cc:Nat):Int),.slice Aa na capa]),(1,.slice As m caps),(2,.pointer (some ⟨g1,0,none⟩)),(4,.pointer (some ⟨g6,0,none⟩)),(5,.int .i64 0),(6,.int .i64 0),(8,.int .i64 0),(9,.slice RA n rcap),(12,.agg #[.int .i64 ((n:Nat):Int),.int .i64 ((cc:Nat):Int),.slice Aa na capa]),(13,.int .i64 0),(14,.int .i64 0),(15,.bool false),(18,.tuple #[.int .i64 (-1),I0]),(19,.pointer (some ⟨g1,0,none⟩)),(20,.int .i64 ((n:Nat):Int)),(21,.slice As m caps),(22,.tuple #[.int .i64 (-1),I0]),(23,.int .i64 (-1)),(24,.int .i64 0),(25,.int .i64 0),(26,.bool false),(29,.agg #[.int .i64 ((n:Nat):Int),.int .i64 ((cc:Nat):Int),.slice Aa na capa]),(30,.slice RA n rcap),(31,.slice As m caps),(32,.int .i64 ((m:Nat):Int)),(33,.int .i64 ((i:Nat):Int))] wr rfl ⟨rfl,rfl,rfl,rfl,rfl,rfl,rfl,rfl,rfl,rfl,rfl,rfl,rfl,rfl,rfl,rfl,rfl,rfl,rfl,rfl,rfl,rfl,rfl,rfl,rfl,rfl,trivial⟩ (cw_seq ?_)
 have hZi:∀a b,a<n→b<cc→ln (pr Z ps a b)≤1048576:=fun a b ha hb=>by rw [hpr a b ha hb];exact Nat.le_trans (stps_ln hXa (by rw [hS.mlen,hS.len]) (by rw [hS.len];exact hall) (by rw [hS.len];exact hmi) i (by rw [hS.len];omega) a b ha hb) (by have:=take_sum_le ms i;omega)
 by_cases him:i<m
 · 
  refine cw_region (wl_cmp rfl rfl rfl true (cb_lt_t (a:=i) (b:=m) rfl rfl (by omega)) (by decide) (ne_ (cw_seq (cw_true rfl (cw_skip (eo_then (cw_seq (cw_block (sr ?_)))))))))
  obtain⟨ps19,sf19,Bf19,cf19,hps19,lds19,ef19⟩:=hS.at (i:=i) (by omega)
  refine wl_idx rfl rfl rfl Tryz.underlying25 aggStep.size i rfl (by omega) ps19 hps19 (by decide) (wl_load rfl rfl (lds19 _ hw1) (by decide) (wl_alloc rfl (z:= .agg #[I0,I0,I0,F0,S0]) (vs:= [I0,I0,I0,F0,S0]) (fun _=>by kernel_rfl) rfl (by decide) fun g20 v21 nb=>?_))
  have hb23:=nb.bk
  have ge24:w.heap.size≤g20:=by rw [←nb.at_];exact hw1.size
  have q25:g6<g20:=by rw [←nb.at_];exact b_g6.lt
  have ne26:∀p:Addr,RA=some p→p.block≠g20:=fun p hp=>by have:=((hL).R.block p hp).2;have:=nb.at_;omega
  have nr27:∀r,r<n→∀p:Addr,ra r=some p→p.block≠g20:=fun r hr p hp=>by have:=((hL).C.lt r hr p hp).2;have:=nb.at_;omega
  have e22:=nb.ext
  clear nb
  have hw2:=hw1.trans e22
  refine so aggStep hb23 [.int .i64 ((ss.getD i Stp.z).k),.int .i64 ((ss.getD i Stp.z).i),.int .i64 ((ss.getD i Stp.z).j),.bool sf19,.slice Bf19 (ms.getD i 0) cf19] hw2 ge24 rfl rfl rfl rfl fun v28 hb30 u31 hw3=>(ne_ (cw_region (lo aggStep hb30 [.int .i64 ((ss.getD i Stp.z).k),.int .i64 ((ss.getD i Stp.z).i),.int .i64 ((ss.getD i Stp.z).j),.bool sf19,.slice Bf19 (ms.getD i 0) cf19] rfl rfl rfl (cl (vs:= [.agg #[.int .i64 ((ss.getD i Stp.z).k),.int .i64 ((ss.getD i Stp.z).i),.int .i64 ((ss.getD i Stp.z).j),.bool sf19,.slice Bf19 (ms.getD i 0) cf19]]) hw3 (g_stp_read hw3.size (ef19.ext hw3) (Nat.le_trans (hM i) (by decide))) rfl (by kernel_rfl) fun xr35 v33 r35 e34 hw4=>(mv 1 rfl (wl_on rfl rfl rfl r35 (hall i him) (Nat.le_trans (Nat.le_trans (Nat.le_trans hlbw e22.size) u31.by_.size) e34.size) hA (((hL.ext e22).updT hb23 u31 ne26 nr27).ext e34) hn hcc hZi (Nat.le_trans (hmi i him) (hM i)) (by decide) fun wst ps2 Z2 hbl hL2 hpr2=>?_))))))
  have hw5:=hbl.toExt hw4 hlow
  refine wl_nil (eo_block_normal (eo_then (cw_region (wl_ar rfl rfl rfl ((i+1:Nat):Int) (ai_add (a:=i) (b:=1) rfl rfl (by omega)) (by decide) (mv 1 rfl (wl_nil (eo_round (⟨wst,i+1,ps2,Z2⟩:World×Nat×List Nat×Mx) ⟨hw5,(by omega),((((b_g1.ext e22).updN u31 (by omega)).ext e34).bl hbl hlo_g1),((((b_g6.ext e22).updN u31 (by omega)).ext e34).bl hbl hlo_g6),(Nat.le_trans (Nat.le_trans (Nat.le_trans (Nat.le_trans hlbw e22.size) u31.by_.size) e34.size) hbl.size),hL2,(fun a b ha hb=>by rw [hpr2 a b ha hb,stps_succ _ (by rw [hS.len];exact him)];exact stp_congr (hall i him) hpr a b ha hb)⟩ (show m-(i+1)<m-i by omega) rfl ⟨rfl,rfl,rfl,rfl,rfl,rfl,rfl,rfl,rfl,rfl,rfl,rfl,rfl,rfl,rfl,rfl,rfl,rfl,rfl,rfl,rfl,rfl,rfl,rfl,rfl,rfl,trivial⟩)))))))
 · 
  refine cw_region (wl_cmp rfl rfl rfl false (cb_lt_f (a:=i) (b:=m) rfl rfl (by omega)) (by decide) (ne_ (cw_seq (cw_false rfl (cw_exit (eo_thenX (eo_loopX (eo_block_here (eo_then (sr (mv 1 rfl (pf g1 1 rfl (by kernel_rfl) (wl_load rfl rfl (load_cell cellInt b_g1 rfl) (by decide) ?_)))))))))))))
  obtain⟨lb36,hlb36,hlelb36,hgl36,hq36_0,hq36_1⟩:∃lb,lb≤wr.heap.size∧wr.heap.size≤lb∧w.heap.size≤lb∧g1<lb∧g6<lb:=⟨wr.heap.size,Nat.le_refl _,Nat.le_refl _,hw1.size,b_g1.lt,b_g6.lt⟩
  refine cl (vs:= [.slice RA n rcap,.int .i64 ((cc:Nat):Int)]) hw1 (g_stp_matrix hw1.size hlb36 hL hn hcc hZi) rfl (by kernel_rfl) fun xr39 v37 r39 e38 hw2=>?_
  obtain⟨lv40,rfl,⟨LA41,lc41,zs41,rfl,lz41,hz41⟩⟩:=r39
  have blk42:=lz41.block
  have hb44:=(b_g6.ext e38)
  refine so aggMat hb44 [.int .i64 ((n:Nat):Int),.int .i64 ((cc:Nat):Int),.slice LA41 (n*cc) lc41] hw2 ge10 rfl rfl rfl rfl fun v43 hb45 u46 hw3=>(mv 1 rfl (ne_ (cw_ret (eo_ret [.agg #[.int .i64 ((n:Nat):Int),.int .i64 ((cc:Nat):Int),.slice LA41 (n*cc) lc41],I0] rfl ⟨⟨_,rfl,load_agg aggMat hb45 [.int .i64 ((n:Nat):Int),.int .i64 ((cc:Nat):Int),.slice LA41 (n*cc) lc41] rfl (bq rfl) rfl⟩,rfl,trivial⟩ ?_))))
  exact⟨_,rfl,⟨_,_,rfl,⟨_,rfl,⟨_,_,_,rfl,((lz41.updT hb44 u46 (show∀p:Addr,LA41=some p→p.block≠g6 from fun p hp=>by have:=blk42 p hp;omega))).mono (Nat.le_refl _) hb (Nat.le_trans hlb hgl36),(En.cong (fun a b ha hb=>(hpr a b ha hb).trans (by rw [List.take_of_length_le (by rw [hS.len];omega)])) _ hz41)⟩⟩,rfl⟩,hw3⟩
end Go.Proofs.YtnpbbknemflpnaaGreat
