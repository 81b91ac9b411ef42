/- Parts Li, One, Sxk, Ms, Mt, Opm, Mta, Top, Br, Dt, Bs, Stm, Cm, Bst, Stp, joined. -/
import Derived.Test.YtnpbbknemflpnaaGreatW2
import Derived.WalkSmall

open Go renaming Addr → a6, Calls → aR, Edge → eR, Exit → cE, Oper → aP, Operand → cA, Program → bP, TypeId → aO, Value → aF, World → a0
open Go.Builtin renaming append_ → lY
open Go.Deferred renaming ofValue → vF
open Go.Instr renaming makeSlice → lV
open Int renaming natCast_mul → jA, toNat_natCast → jV
open List renaming cons_append → sD, getD_eq_getElem?_getD → bO, getElem?_eq_getElem → d8, getElem?_eq_none → mX, getElem?_eq_some_iff → fF, getElem?_map → pM, length_append → kI, length_cons → iE, length_take → dH, map_cons → mW, range → d7, replicate → dL
open Nat renaming add_assoc → jU, add_mul → dS, add_zero → eA, div_eq_of_lt → gZ, le_refl → aI, le_trans → a7, lt_of_lt_of_le → cJ, min_eq_left → iD, mod_eq_of_lt → gP, mul_add_div → lR, mul_add_mod → rZ, mul_comm → cY, mul_le_mul → fV, mul_le_mul_right → dX, mul_one → gY, succ_mul → gO, zero_add → fE, zero_le → bX
open Go.Next renaming value → iA
open Or renaming inl → bE, inr → bK
open Go.Result renaming andThen_ok → eD
open Go.Sem renaming run_bind → c8, run_pure → fO
open Go.Proofs.Tryz renaming prog → aJ
namespace Go.Proofs.YtnpbbknemflpnaaGreat
set_option maxRecDepth 20000
set_option maxHeartbeats 8000000
variable {A A' Aa Al Ay B NA RA S:Option a6}{C R a hd x z:Int}{H:Type}{K K' b b' b_a b_y base bytes c ca cap capa fuel g i j k lb lb' n na q r s':Nat}{T t:aO}{W w w' w0:a0}{cs news us vs:List aF}{e:ZC}{m mo:Option a0}{ms ps:List Nat}{ns zs:List Int}{p:List MemPlace}{s sa sl sy tu:Bool}{ts:Array aO}{v:aF}{xs:Array cA}{y:cA}
section
open Go.RowKit
theorem bM:Tryz.prog.underlying 22=some (.slice 41):=by kernel_rfl
theorem xR:(Tryz.prog.info? 41).map (fun i=>(i.zero,i.size,i.bytes))=some (some (O false none 0 0),2,32):=by kernel_rfl
def ZC.zero:ZC:=⟨false,none,0,0⟩
def l7 (e:ZC):List aF:= (a4 e.s e.A e.n e.c)
def fY:List ZC→List aF
 | []=> []
 | e::r=> .bool e.s:: .slice e.A e.n e.c::fY r
theorem vJ:∀es:List ZC,(fY es).length=es.length*2
 | []=>rfl
 | e::r=>by simp only [fY,iE,vJ r];omega
theorem AE:∀(es fs:List ZC),fY (es++fs)=fY es++fY fs
 | [],fs=>rfl
 | e::r,fs=>by simp only [fY,sD,AE r fs]
theorem pQ:∀(es:List ZC) (i:Nat),i<es.length→(fY es)[i*2]?=some (.bool (es.getD i ZC.zero).s)
 | [],i,h=>by simp at h
 | e::r,0,h=>rfl
 | e::r,i+1,h=>by
  have:=pQ r i (by simpa using h)
  simpa [fY,dS] using this
theorem sI:∀(es:List ZC) (i:Nat),i<es.length→(fY es)[i*2+1]?=some (.slice (es.getD i ZC.zero).A (es.getD i ZC.zero).n (es.getD i ZC.zero).c)
 | [],i,h=>by simp at h
 | e::r,0,h=>rfl
 | e::r,i+1,h=>by
  have:=sI r i (by simpa using h)
  simpa [fY,dS] using this
theorem AD:∀(es:List ZC) (i:Nat) (e:ZC),i<es.length→gA (fY es) (i*2) (l7 e)=fY (es.set i e)
 | [],i,e,h=>by simp at h
 | a::r,0,e,h=>by simp [fY,gA,l7]
 | a::r,i+1,e,h=>by
  have:=AD r i e (by simpa using h)
  simp only [gA,l7,iE,List.length_nil] at this⊢
  rw [show (i+1)*2=i*2+1+1 by omega,show i*2+1+1+(0+1+1)=i*2+(0+1+1)+1+1 by omega]
  simp only [fY,List.take_succ_cons,List.drop_succ_cons,sD,List.set_cons_succ,this]
theorem Zl.at (h:Zl w A n cap zs ms)(hi:i<n):∃p s B c,A.map (·.add (i*2))=some p∧(∀w',Ext w w'→∀(P:bP) (T:aO),AggT P T 2→(loadVar T p).run P w'= .ok (.agg #[.bool s,By B (ms.getD i 0) c]) w')∧Zi w s B (ms.getD i 0) c (zs.getD i 0):=by
 obtain⟨a,s,B,c,rfl,J,o,H⟩:=h.get i hi
 refine⟨a.add (i*2),s,B,c,rfl,fun w' e P T I=>D5 I [.bool s,By B (ms.getD i 0) c] G (fun j hj=>?_),H⟩
 rw [pB]
 match j,hj with
 | 0,_=>exact e.cell J
 | 1,_=>exact e.cell o
theorem Zr.updOT {m:Nat}(h:Zr w b s A n cap z)(ho:Own w b' T s' B m c us)(x:UpdO B w w')(hT:45≠T:=by decide):Zr w' b s A n cap z:=
 ⟨h.sgn,h.len,h.own.updOT ho hT x⟩
def Zo (w:a0)(b:Nat)(s:Bool)(A:Option a6)(n cap:Nat)(z:Int):Prop:=∃xs,Own w b 45 1 A n cap (xs.map bD)∧Wf xs∧sg s (nv xs)=z
section
variable {w w':a0}{b:Nat}{s:Bool}{A:Option a6}{n cap:Nat}{z:Int}
theorem Zo.zi (h:Zo w b s A n cap z):Zi w s A n cap z:=by obtain⟨xs,o,H,I⟩:=h;exact⟨xs,o.rd H,I⟩
theorem Zo.ext (h:Zo w b s A n cap z)(x:Ext w w'):Zo w' b s A n cap z:=by obtain⟨xs,o,H⟩:=h;exact⟨xs,o.ext x,H⟩
theorem Zo.mono (h:Zo w b s A n cap z)(x:b'≤b):Zo w b' s A n cap z:=by obtain⟨xs,o,H⟩:=h;exact⟨xs,o.mono x,H⟩
theorem Zo.updT (h:Zo w b s A n cap z)(hb:Bk w g T us)(x:Upd g w w')(hT:45≠T:=by decide):Zo w' b s A n cap z:=by obtain⟨xs,o,H⟩:=h;exact⟨xs,o.updT hb hT x,H⟩
theorem Zo.updOT {m:Nat}(h:Zo w b s A n cap z)(ho:Own w b' T s' B m c us)(x:UpdO B w w')(hT:45≠T:=by decide):Zo w' b s A n cap z:=by obtain⟨xs,o,H⟩:=h;exact⟨xs,o.updOT ho hT x,H⟩
end
def El (m:Option a0)(b:Nat)(w:a0)(e:ZC)(z:Int):Prop:=Zr w b e.s e.A e.n e.c z∨∃w0,m=some w0∧(Zi w0 e.s e.A e.n e.c z∨Zo w b e.s e.A e.n e.c z)
theorem El.ext (h:El m b w e z)(x:Ext w w'):El m b w' e z:=h.imp (·.ext x) (fun⟨w0,o,H⟩=>⟨w0,o,H.imp id (·.ext x)⟩)
theorem El.updT (h:El m b w e z)(hb:Bk w g T us)(x:Upd g w w')(hT:45≠T:=by decide):El m b w' e z:=h.imp (·.updT hb x hT) (fun⟨w0,o,H⟩=>⟨w0,o,H.imp id (·.updT hb x hT)⟩)
theorem El.mono (h:El m b w e z)(x:b'≤b):El m b' w e z:=h.imp (·.mono x) (fun⟨w0,o,H⟩=>⟨w0,o,H.imp id (·.mono x)⟩)
theorem El.updOT (h:El m b w e z)(ho:Own w b' T s' B n c us)(x:UpdO B w w')(hT:45≠T:=by decide):El m b w' e z:=h.imp (·.updOT ho x hT) (fun⟨w0,o,H⟩=>⟨w0,o,H.imp id (·.updOT ho x hT)⟩)
theorem El.zi (h:El (some w0) b w e z)(x:Ext w0 w):Zi w e.s e.A e.n e.c z:=by
 rcases h with h | ⟨_,o,H⟩
 ·exact h.zi
 ·cases o;exact H.elim (·.ext x) (·.zi)
theorem El.zr (h:El none b w e z):Zr w b e.s e.A e.n e.c z:=by
 rcases h with h | ⟨_,o,_⟩
 ·exact h
 ·cases o
def Lz (m:Option a0)(K b:Nat)(w:a0)(lb:Nat)(A:Option a6)(n cap:Nat)(zs:List Int):Prop:=
 ∃es,Own w lb 41 2 A n cap (fY es)∧es.length=n∧zs.length=n∧∀i,i<n→(es.getD i ZC.zero).n≤K∧El m b w (es.getD i ZC.zero) (zs.getD i 0)
section
variable {m:Option a0}{K b lb:Nat}{w w':a0}{A:Option a6}{n cap:Nat}{zs:List Int}
theorem Lz.own (h:Lz m K b w lb A n cap zs):∃vs,Own w lb 41 2 A n cap vs:=by obtain⟨es,o,_⟩:=h;exact⟨_,o⟩
theorem Lz.block (h:Lz m K b w lb A n cap zs):∀a,A=some a→lb≤a.block∧a.block<w.heap.size:=by obtain⟨vs,h⟩:=h.own;exact h.block
theorem Lz.len (h:Lz m K b w lb A n cap zs):zs.length=n:=by obtain⟨es,_,_,o,_⟩:=h;exact o
theorem Lz.ext (h:Lz m K b w lb A n cap zs)(x:Ext w w'):Lz m K b w' lb A n cap zs:=by
 obtain⟨es,H,J,I,o⟩:=h
 exact⟨es,H.ext x,J,I,fun i hi=>⟨(o i hi).1,(o i hi).2.ext x⟩⟩
theorem Lz.updT (h:Lz m K b w lb A n cap zs)(hb:Bk w g T us)(x:Upd g w w')(hne:∀p,A=some p→p.block≠g)(hT:45≠T:=by decide):Lz m K b w' lb A n cap zs:=by
 obtain⟨es,H,J,I,o⟩:=h
 exact⟨es,H.upd x hne,J,I,fun i hi=>⟨(o i hi).1,(o i hi).2.updT hb x hT⟩⟩
theorem Lz.updO (h:Lz m K b w lb A n cap zs)(ho:Own w lb' 41 2 B k c us)(x:UpdO B w w')(hne:∀p q,B=some p→A=some q→p.block≠q.block):Lz m K b w' lb A n cap zs:=by
 obtain⟨es,H,J,I,o⟩:=h
 exact⟨es,H.updO x hne,J,I,fun i hi=>⟨(o i hi).1,(o i hi).2.updOT ho x⟩⟩
theorem Lz.nil (m:Option a0)(K b:Nat)(w:a0)(lb:Nat):Lz m K b w lb none 0 0 []:=⟨[],Own.nil _ _ _ _,rfl,rfl,fun i hi=>by omega⟩
theorem Lz.mono (h:Lz m K b w lb A n cap zs)(hK:K≤K')(hb:b'≤b)(hl:lb'≤lb):Lz m K' b' w lb' A n cap zs:=by
 obtain⟨es,H,J,I,o⟩:=h
 exact⟨es,H.mono hl,J,I,fun i hi=>⟨a7 (o i hi).1 hK,(o i hi).2.mono hb⟩⟩
theorem Lz.at (h:Lz m K b w lb A n cap zs)(hi:i<n):∃p s B k c,A.map (·.add (i*2))=some p∧(∀w',Ext w w'→∀(P:bP) (T:aO),AggT P T 2→(loadVar T p).run P w'= .ok (O s B k c) w')∧k≤K∧El m b w ⟨s,B,k,c⟩ (zs.getD i 0):=by
 obtain⟨es,I,_,_,H⟩:=h
 obtain⟨a,o,J⟩:=I.rv.get (i*2) (by omega)
 obtain⟨a',ha',hc'⟩:=I.rv.get (i*2+1) (by omega)
 rw [o] at ha';cases ha'
 have g0:=pQ es i (by omega)
 have U:=sI es i (by omega)
 rw [bO,g0] at J
 rw [bO,U] at hc'
 refine⟨a.add (i*2),_,_,_,_,by rw [o];rfl,fun w' e P T hT=>D5 hT [.bool (es.getD i ZC.zero).s,.slice (es.getD i ZC.zero).A (es.getD i ZC.zero).n (es.getD i ZC.zero).c] G (fun j hj=>?_),(H i hi).1,(H i hi).2⟩
 rw [pB]
 match j,hj with
 | 0,_=>exact e.cell J
 | 1,_=>exact e.cell hc'
theorem Lz.zl (h:Lz (some w0) K b w lb A n cap zs)(x:Ext w0 w):∃ms,Zl w A n cap zs ms∧∀i,ms.getD i 0≤K:=by
 obtain⟨es,H,h2,h3,J⟩:=h
 have o:∀i,i<n→(es.map (·.n)).getD i 0=(es.getD i ZC.zero).n:=fun i hi=>by
  simp [bO,pM,d8 (show i<es.length by omega)]
 refine⟨es.map (·.n),⟨h3,by rw [List.length_map,h2],H.rv.le,H.rv.max,fun i hi=>?_⟩,fun i=>?_⟩
 ·obtain⟨a,I,U⟩:=H.rv.get (i*2) (by omega)
  obtain⟨a',ha',hc'⟩:=H.rv.get (i*2+1) (by omega)
  rw [I] at ha';cases ha'
  have g0:=pQ es i (by omega)
  have g1:=sI es i (by omega)
  rw [bO,g0] at U
  rw [bO,g1] at hc'
  rw [o i hi]
  exact⟨a,_,_,_,I,U,hc',(J i hi).2.zi x⟩
 ·by_cases hi:i<n
  ·rw [o i hi];exact (J i hi).1
  ·rw [bO,mX (by rw [List.length_map];omega)];exact bX _
theorem xW {α:Type}{l r:List α}{d:α}(h:i<l.length:=by omega):(l++r).getD i d=l.getD i d:=by
 rw [bO,bO,List.getElem?_append_left h]
theorem xV {α:Type}{l r:List α}{a d:α}:(l++a::r).getD l.length d=a:=by
 rw [bO,List.getElem?_append_right (aI _),Nat.sub_self];rfl
end
theorem nM (h:uM w A A')(hg:g<w.heap.size)(hne:∀p,A=some p→p.block≠g):∀p,A'=some p→p.block≠g:=fun p o=>by
 rcases h p o with⟨a,H,e⟩ | e
 ·rw [e];exact hne a H
 ·omega
section
variable {Q:cE→Act→a0→Prop}{N:Nat}{l:Fr}{w:a0}{ops:Array aP}{rest:List aP}{d:Nat}{ty:aO}{pos:String}{af:Array eR}{gd:Option (Nat×Bool)}
theorem vO {x:cA}(hw:cZ ops l gd=some true)(hx:bT l x=some (By A n cap))(hy:bT l y=some (By (some ⟨g,0,none⟩) 1 c))(h:Lz m K b w lb A n cap zs)(hlb:lb≤w.heap.size)(hb:Bk w g 41 (l7 e))(he:El m b w e z)(hK:e.n≤K)(k:∀A' cap' w',Lz m K b w' lb A' (n+1) cap' (zs++ [z])→UpdO A w w'→uM w A A'→wl aJ ops Q N rest ((d,By A' (n+1) cap')::l) w')(hm:n≤1099511627775:=by omega)(hd:d<N:=by decide):wl aJ ops Q N (⟨some d,.call {callee:= .builtin .append,args:= #[x,y],argTypes:= #[22,22]},ty,pos,af,gd⟩::rest) l w:=by
 obtain⟨es,J,U,h3,h4⟩:=h
 refine GV hw hx hy bM xR G (by decide) (by decide) J hlb (l7 e) G (fun j u hj=>?_) G (by omega) hd fun A' cap' w' ho H hk=>k A' cap' w' ?_ H hk
 ·have I:j<(l7 e).length:=(fF.1 hj).1
  rw [iZ,fE,hb.cell I,bO,hj];rfl
 ·refine⟨es++ [e],by rw [AE];exact ho,by simp [U],by simp [h3],fun i hi=>?_⟩
  by_cases o:i<n
  ·rw [xW,xW]
   exact⟨(h4 i o).1,(h4 i o).2.updOT J H⟩
  ·have e1:i=n:=by omega
   subst e1
   have e2:(es++ [e]).getD i ZC.zero=e:=by rw [←U];exact xV
   have e3:(zs++ [z]).getD i 0=z:=by rw [←h3];exact xV
   rw [e2,e3]
   exact⟨hK,he.updOT J H⟩
theorem AQ {x:cA}(m:Option a0)(K b:Nat)(hw:cZ ops l gd=some true)(hx:bT l x=some (AI 0))(hy:bT l y=some (AI (k:Int)))(hk:k≤1099511627776)(hd:d<N)(h:∀g w',w.heap.size=g→Lz m K b w' g (some ⟨g,0,none⟩) 0 k []→Ext w w'→wl aJ ops Q N rest ((d,By (some ⟨g,0,none⟩) 0 k)::l) w'):wl aJ ops Q N (⟨some d,.makeSlice 22 x y,ty,pos,af,gd⟩::rest) l w:=by
 obtain⟨i,hi,H,U,o⟩:=info_parts xR
 have hr:=run_make (P:=aJ) w 22 41 i _ bM hi H .i64 .i64 0 (k:Int) (by omega) (by omega) (by rw [o];omega) (by omega)
 rw [jV,show (0:Int).toNat=0 from rfl,U] at hr
 obtain⟨cs,I,J⟩:∃cs:List aF,madeCells (Value.agg #[.bool false,.slice none 0 0]).cells (k*2)=cs.toArray∧cs.length=k*2:=⟨(madeCells (Value.agg #[Hs,By none 0 0]).cells (k*2)).toList,Array.toArray_toList.symm,by rw [Array.length_toList,size_madeCells]⟩
 rw [I] at hr
 refine fP hw hd (fun a' ha=>?_) (h _ (w.alloc (.cells cs.toArray 41)) G ⟨[],bK ⟨w.heap.size,cs,rfl,aI _,Bk.new _ _ _,bX _,by rw [eY];omega,J,rfl⟩,rfl,rfl,fun i hi=>by omega⟩ ((Ext.refl w).alloc _))
 have e':(lV 22 (a'.eval x) (a'.eval y)).run aJ w= .ok (By (some ⟨w.heap.size,0,none⟩) 0 k) (w.alloc (.cells cs.toArray 41)):=by rw [ha.ev hx,ha.ev hy];exact hr
 show ((lV 22 (a'.eval x) (a'.eval y)>>=fun r=>pure (iA r):Sem Next)).run aJ w=_
 rw [c8,e'];rfl
theorem kL {x:cA}{p:a6}(hw:cZ ops l gd=some true)(hx:bT l x=some (.pointer (some p)))(hy:bT l y=some (O e.s e.A e.n e.c))(hp:A.map (·.add (i*2))=some p)(h:Lz m K b w lb A n cap zs)(he:El m b w e z)(hK:e.n≤K)(k:∀w',Lz m K b w' lb A n cap (zs.set i z)→UpdO A w w'→wl aJ ops Q N rest l w')(hi:i<n:=by omega):wl aJ ops Q N (⟨none,.store 41 x y,ty,pos,af,gd⟩::rest) l w:=by
 obtain⟨es,h1,h2,h3,h4⟩:=h
 have h1':=h1
 rcases h1 with⟨rfl,_⟩ | ⟨g,cs,rfl,hg,hk,hn,H,_,hv⟩
 ·cases hp
 ·have hp':p=⟨g,i*2,none⟩:=by
   injection hp with hp
   rw [←hp]
   show (⟨g,0,none⟩:a6).add (i*2)=_
   rw [iZ,fE]
  subst hp'
  have ao:=dX 2 hn
  refine fC hw hx (us:=l7 e) hy aG G hk (by omega) G _ G fun w' J I _=>k w' ⟨es.set i e,bK ⟨g,_,rfl,hg,J,hn,H,?_,?_⟩,by simp [h2],by simp [h3],fun j hj=>?_⟩ I.updO
  ·unfold gA
   simp only [kI,dH,List.length_drop,l7,iE,List.length_nil]
   omega
  ·rw [←AD es i e (by omega),←hv]
   have ak:i*2+2≤n*2:=by omega
   have hz:(l7 e).length=2:=rfl
   unfold gA
   rw [hz,List.take_append,List.take_append,List.take_take,List.take_take,kI,dH,iD (by omega:i*2≤cs.length),hz,Nat.min_eq_right (by omega),iD (by omega)]
   congr 1
   ·congr 1
    exact List.take_of_length_le (by rw [hz];omega)
   ·rw [List.drop_take]
  ·by_cases o:j=i
   ·subst o
    have U:(es.set j e).getD j ZC.zero=e:=by simp [bO,h2,hj]
    have e2:(zs.set j z).getD j 0=z:=by simp [bO,h3,hj]
    rw [U,e2]
    exact⟨hK,he.updOT h1' I.updO⟩
   ·have U:(es.set i e).getD j ZC.zero=es.getD j ZC.zero:=by simp [bO,Ne.symm o]
    have e2:(zs.set i z).getD j 0=zs.getD j 0:=by simp [bO,Ne.symm o]
    rw [U,e2]
    exact⟨(h4 j hj).1,(h4 j hj).2.updOT h1' I.updO⟩
end
section
variable {P:bP}
theorem JJ {ty e:aO}{z:aF}(ht:P.underlying t=some (.slice e))(hinfo:(P.info? e).map (fun i=>(i.zero,i.size,i.bytes))=some (some z,1,bytes))(hzs:z.cells.size=1)(hby:bytes≤64)(hg:base≤g)(hb:base≤w.heap.size)(hk:Bk w g e []){m:Nat}(hr:Rv w 1 S m c news)(_h1:∀u∈news,u.oneCell'=true)(hm:m≤1099511627776):∃A' cap' w',(lY #[t,t] ty #[By (some ⟨g,0,none⟩) 0 0,By S m c]).run P w= .ok (By A' m cap') w'∧Own w' base e 1 A' m cap' news∧Ext w w':=by
 obtain⟨i,hi,hz,ab,U⟩:=info_parts hinfo
 have o:Own w base e 1 (some ⟨g,0,none⟩) 0 0 []:=Own.mk_ hg hk (aI _) (bX _) G rfl
 have hl:=hr.len
 have J:m=0→news= []:=fun h=>List.eq_nil_of_length_eq_zero (by rw [hl,h])
 cases S with
 | none=>
  have I:m=0:=by
   rcases Nat.eq_zero_or_pos m with I | I
   ·exact I
   ·obtain⟨ad,h,_⟩:=hr.get 0 (by omega)
    cases h
  rw [J I,I]
  exact⟨_,_,w,JH (P:=P) w base t ty e i 1 ht hi _ 0 [] o.row c,o,Ext.refl w⟩
 | some a=>
  by_cases I:m=0
  ·rw [J I,I]
   have aa:=run_firstCells_some (P:=P) (w:=w) i.size 0 a 0 c [] (by simp) (by simp)
   exact⟨_,_,w,by simp [lY,run_underlying ht,sizeOf,typeInfo,hi,Builtin.lenOf,aa,storeCells],o,Ext.refl w⟩
  ·obtain⟨v',w',H,h2,h3⟩:=run_append_arg_grows (P:=P) w t ty e i z 1 bytes ht hi hz ab U hzs (by decide) ⟨g,0,none⟩ 0 0 [] G (fun j u hj=>by simp at hj) a m c news hl
    (fun j u hu=>by
     have hj:j<news.length:=(fF.1 hu).1
     obtain⟨a',ha',hc⟩:=hr.get j (by rw [←hl];exact hj)
     cases ha'
     rw [hc,←hu,bO,d8 hj]
     rfl) (by omega) (by rw [eY];omega) (by
     have:(0+m)*bytes≤1099511627776*64:=fV (by omega) hby
     omega)
   obtain⟨A',cap',rfl,ho⟩:=Own.of_row h2
   rw [fE,List.nil_append] at ho
   rw [fE] at H
   exact⟨A',cap',w',H,ho.mono hb,(UpdO.of (A:=none) h3).ext aB (fun p hp=>by cases hp)⟩
variable {Q:cE→Act→a0→Prop}{n:Nat}{l:Fr}{w:a0}{ops:Array aP}{rest:List aP}{d:Nat}{ty:aO}{pos:String}{af:Array eR}{gd:Option (Nat×Bool)}
theorem GU {x:cA}{e:aO}{z:aF}{m:Nat}(hw:cZ ops l gd=some true)(hx:bT l x=some (By (some ⟨g,0,none⟩) 0 0))(hy:bT l y=some (By S m c))(ht:P.underlying t=some (.slice e))(hinfo:(P.info? e).map (fun i=>(i.zero,i.size,i.bytes))=some (some z,1,bytes))(hzs:z.cells.size=1)(hby:bytes≤64)(hg:base≤g)(hb:base≤w.heap.size)(hk:Bk w g e [])(hr:Rv w 1 S m c news)(h1:∀u∈news,u.oneCell'=true)(hm:m≤1099511627776)(hn:d<n)(h:∀A' cap' w',Own w' base e 1 A' m cap' news→Ext w w'→wl P ops Q n rest ((d,By A' m cap')::l) w'):wl P ops Q n (⟨some d,.call {callee:= .builtin .append,args:= #[x,y],argTypes:= #[t,t]},ty,pos,af,gd⟩::rest) l w:=by
 obtain⟨A',cap',w',hr,H,I⟩:=JJ (P:=P) (ty:=ty) ht hinfo hzs hby hg hb hk hr h1 hm
 refine fP hw hn (fun a' o=>?_) (h A' cap' w' H I)
 unfold execOp
 simp only [resolve,invoke,builtin,c8,fO,eD,List.map_toArray,mW,List.map_nil,o.ev hx,o.ev hy]
 rw [hr]
 rfl
end
theorem KV (k:Nat):(madeCells (Value.agg #[Hs,By none 0 0]).cells (k*2)).toList=fY (dL k ZC.zero):=by
 refine List.ext_getElem ?_ fun j h1 I=>?_
 ·rw [Array.length_toList,size_madeCells,vJ,List.length_replicate]
 ·have hj:j<k*2:=by simpa [size_madeCells] using h1
  have U:(madeCells (Value.agg #[Hs,By none 0 0]).cells (k*2)).toList[j]= #[Value.bool false,By none 0 0][j%2]!:=by
   simp [madeCells,Value.cells]
  rw [U]
  have H:j/2<(dL k ZC.zero).length:=by rw [List.length_replicate];omega
  have J:(dL k ZC.zero).getD (j/2) ZC.zero=ZC.zero:=by
   rw [bO,List.getElem?_replicate];split <;> rfl
  rcases Nat.mod_two_eq_zero_or_one j with h | h
  ·have o:=pQ (dL k ZC.zero) (j/2) H
   rw [show j/2*2=j by omega,d8 I,J] at o
   injection o with o
   rw [o,h];rfl
  ·have o:=sI (dL k ZC.zero) (j/2) H
   rw [show j/2*2+1=j by omega,d8 I,J] at o
   injection o with o
   rw [o,h];rfl
section
variable {Q:cE→Act→a0→Prop}{N:Nat}{l:Fr}{w:a0}{ops:Array aP}{rest:List aP}{d:Nat}{ty:aO}{pos:String}{af:Array eR}{gd:Option (Nat×Bool)}
theorem sL {x:cA}(m:Option a0)(K b:Nat)(hw:cZ ops l gd=some true)(hx:bT l x=some (AI (k:Int)))(hy:bT l y=some (AI (k:Int)))(h:∀g w',w.heap.size=g→Lz m K b w' g (some ⟨g,0,none⟩) k k (dL k 0)→Ext w w'→wl aJ ops Q N rest ((d,By (some ⟨g,0,none⟩) k k)::l) w')(hk:k≤1099511627776:=by omega)(hd:d<N:=by decide):wl aJ ops Q N (⟨some d,.makeSlice 22 x y,ty,pos,af,gd⟩::rest) l w:=by
 obtain⟨i,hi,J,aa,I⟩:=info_parts xR
 have hr:=run_make (P:=aJ) w 22 41 i _ bM hi J .i64 .i64 (k:Int) (k:Int) (by omega) (by omega) (by rw [I];omega) (by omega)
 rw [jV,aa] at hr
 obtain⟨cs,U,o⟩:∃cs:List aF,madeCells (Value.agg #[.bool false,.slice none 0 0]).cells (k*2)=cs.toArray∧cs=fY (dL k ZC.zero):=⟨(madeCells (Value.agg #[Hs,By none 0 0]).cells (k*2)).toList,Array.toArray_toList.symm,KV k⟩
 rw [U] at hr
 have H:cs.length=k*2:=by rw [o,vJ,List.length_replicate]
 refine fP hw hd (fun a' ha=>?_) (h _ (w.alloc (.cells cs.toArray 41)) G ⟨dL k ZC.zero,bK ⟨w.heap.size,cs,rfl,aI _,Bk.new _ _ _,aI _,by rw [eY];omega,H,by rw [List.take_of_length_le (by omega)];exact o⟩,List.length_replicate ..,List.length_replicate ..,fun i hi=>?_⟩ ((Ext.refl w).alloc _))
 ·have e':(lV 22 (a'.eval x) (a'.eval y)).run aJ w= .ok (By (some ⟨w.heap.size,0,none⟩) k k) (w.alloc (.cells cs.toArray 41)):=by rw [ha.ev hx,ha.ev hy];exact hr
  show ((lV 22 (a'.eval x) (a'.eval y)>>=fun r=>pure (iA r):Sem Next)).run aJ w=_
  rw [c8,e'];rfl
 ·have e1:(dL k ZC.zero).getD i ZC.zero=ZC.zero:=by rw [bO,List.getElem?_replicate];split <;> rfl
  have e2:(dL k (0:Int)).getD i 0=0:=by rw [bO,List.getElem?_replicate];split <;> rfl
  rw [e1,e2]
  exact⟨bX _,bE Zr.zero⟩
end
def jY (zs:List Int)(n k:Nat):List Int:=zs.take k++dL (n-k) 0
theorem AW (zs:List Int)(n:Nat):dL n 0=jY zs n 0:=by simp [jY]
theorem AY (h:zs.length=n):jY zs n n=zs:=by simp [jY,←h]
theorem AX (h:zs.length=n)(hk:k<n):(jY zs n k).set k (zs.getD k 0)=jY zs n (k+1):=by
 unfold jY
 rw [List.set_append_right _ _ (by rw [dH];omega),dH,iD (by omega),Nat.sub_self,show n-k=(n-(k+1))+1 by omega,List.replicate_succ,List.set_cons_zero]
 rw [show zs.take (k+1)=zs.take k++ [zs.getD k 0] by rw [List.take_add_one,bO,d8 (by omega)];rfl,List.append_assoc]
 rfl
def ZOR (b:Nat)(s:Bool)(n:Nat)(z:Int)(v:aF)(w:a0):Prop:=∃A c,v= O s A n c∧Zo w b s A n c z
theorem ZOR.imp (h:b'≤b):∀v w,ZOR b s n z v w→ZOR b' s n z v w:=fun _ _ ⟨A,c,o,H⟩=>⟨A,c,o,H.mono h⟩
section
variable {P:bP}{Q:cE→Act→a0→Prop}{n:Nat}{l:Fr}{w:a0}{ops:Array aP}{rest:List aP}{d:Nat}{op:Op}{ty:aO}{pos:String}{af:Array eR}{gd:Option (Nat×Bool)}
theorem GO {v':aF}(hw:cZ ops l gd=some true)(hk:jL l op=true)(hn:d<n)(hr:(execOp (rho l) ⟨some d,op,ty,pos,af,gd⟩).run P w= .ok (.value v) w)(e:v=v')(h:wl P ops Q n rest ((d,v')::l) w):wl P ops Q n (⟨some d,op,ty,pos,af,gd⟩::rest) l w:=AO hw hk hn hr (by rw [e];exact h)
end
end
section
def sm:Nat→(Nat→Int)→Int
 | 0,_=>0
 | n+1,f=>sm n f+f n
theorem cX {f g:Nat→Int}(h:∀i,i<n→f i=g i):sm n f=sm n g:=by
 induction n with
 | zero=>rfl
 | succ n ih=>simp only [sm];rw [ih (fun i hi=>h i (by omega)),h n (by omega)]
theorem i0 (n:Nat):sm n (fun _=>0)=0:=by
 induction n with
 | zero=>rfl
 | succ n ih=>simp only [sm,ih];rfl
theorem kM (n:Nat)(f g:Nat→Int):sm n (fun i=>f i+g i)=sm n f+sm n g:=by
 induction n with
 | zero=>rfl
 | succ n ih=>simp only [sm,ih];omega
theorem jE (n:Nat)(c:Int)(f:Nat→Int):sm n (fun i=>c*f i)=c*sm n f:=by
 induction n with
 | zero=>simp [sm]
 | succ n ih=>simp only [sm,ih,Int.mul_add]
theorem IK (n m:Nat)(f:Nat→Nat→Int):sm n (fun i=>sm m (fun j=>f i j))=sm m (fun j=>sm n (fun i=>f i j)):=by
 induction n with
 | zero=>simp only [sm,i0]
 | succ n ih=>simp only [sm,ih,kM]
theorem iP (hi:i<n)(f:Nat→Int):sm n (fun j=>if j=i then f j else 0)=f i:=by
 induction n with
 | zero=>omega
 | succ n ih=>
  simp only [sm]
  by_cases h:i<n
  ·rw [ih h,if_neg (by omega)];omega
  ·have e:n=i:=by omega
   subst e
   rw [if_pos rfl,cX (g:=fun _=>0) (fun j hj=>if_neg (by omega)),i0];omega
theorem sV (n:Nat)(f:Nat→Int):sm (n+1) f=f 0+sm n (fun i=>f (i+1)):=by
 induction n with
 | zero=>simp [sm]
 | succ n ih=>rw [sm,ih];simp only [sm];omega
def cv:(Nat→Int)→(Nat→Int)→Nat→Int
 | f,g,0=>f 0*g 0
 | f,g,k+1=>f 0*g (k+1)+cv (fun i=>f (i+1)) g k
def c1:Nat→Int
 | 0=>1
 | _+1=>0
abbrev Mx:=Nat→Nat→Int
def mm (n:Nat)(A B:Mx):Mx:=fun i j=>sm n fun k=>A i k*B k j
def m1:Mx:=fun i j=>if i=j then 1 else 0
def mp (n:Nat)(A:Mx):Nat→Mx
 | 0=>m1
 | k+1=>mm n (mp n A k) A
theorem KQ {A A' B B':Mx}(h:∀k,k<n→A i k=A' i k)(h':∀k,k<n→B k j=B' k j):mm n A B i j=mm n A' B' i j:=
 cX fun k o=>by rw [h k o,h' k o]
theorem KW (A:Mx)(j:Nat)(hi:i<n):mm n m1 A i j=A i j:=by
 have:mm n m1 A i j=sm n fun k=>if k=i then A k j else 0:=cX fun k _=>by
  unfold m1
  by_cases h:k=i
  ·rw [if_pos h,if_pos h.symm];omega
  ·rw [if_neg h,if_neg (fun e=>h e.symm)];omega
 rw [this,iP hi (fun k=>A k j)]
section
variable (n:Nat) (A:Mx)
def JC (t j:Nat):Int:=sm n fun i=>A n i*mp n A t i j
def hh (t:Nat):Int:=sm n fun j=>JC n A t j*A j n
end
def sx (p n i:Nat):Nat:=if i=p then n else if i=n then p else i
end
section
open Go.RowKit
theorem bS:AggT aJ 24 3:=⟨fun _=>by kernel_rfl,fun _=>by kernel_rfl⟩
theorem bV:∀w,(isAgg 3).run aJ w= .ok false w:=fun _=>by kernel_rfl
theorem cD:∀w,(isAgg 22).run aJ w= .ok false w:=fun _=>by kernel_rfl
theorem nE:∀w,(sizeOf 3).run aJ w= .ok 1 w:=fun _=>by kernel_rfl
theorem cV:∀w,(sizeOf 22).run aJ w= .ok 1 w:=fun _=>by kernel_rfl
theorem I9:∀w,(sizeOf 4).run aJ w= .ok 1 w:=fun _=>by kernel_rfl
section
variable {P:bP}{Q:cE→Act→a0→Prop}{n:Nat}{l:Fr}{w:a0}{ops:Array aP}{rest:List aP}{d:Nat}{ty:aO}{pos:String}{af:Array eR}{gd:Option (Nat×Bool)}
theorem xE {a:Act}(ha:Rp n l a):∀(xs:List cA) (vs:List aF),xs.map (bT l)=vs.map some→xs.map a.eval=vs
 | [],[],_=>rfl
 | [],_::_,h=>by cases h
 | _::_,[],h=>by cases h
 | x::xs,v::vs,h=>by
  simp only [mW,List.cons.injEq] at h
  rw [mW,ha.ev h.1,xE ha xs vs h.2]
theorem oE {x:cA}{k:FuncId}(vs:List aF){R:Ending→a0→Prop}(hw:cZ ops l gd=some true)(hx:bT l x=some (.func (.func k) #[] cs.toArray))(hxs:xs.toList.map (bT l)=vs.map some)(he:∀(args:Array aF) (w:a0),(callFunc k args).run P w= .ok (.enter k args) w)(hn:d<n)(hc:aR P k (vs++cs).toArray w R)(h:∀e w',R e w'→uJ (fun v=>wl P ops Q n rest ((d,v)::l) w') e):wl P ops Q n (⟨some d,.call {callee:= .value x,args:=xs,argTypes:=ts},ty,pos,af,gd⟩::rest) l w:=fun a o=>by
 refine sK hw o fun K J=>?_
 have H:xs.map a.eval=vs.toArray:=by
  apply Array.ext'
  rw [Array.toList_map]
  exact xE o _ _ hxs
 have U:(execOp a.eval ⟨some d,.call {callee:= .value x,args:=xs,argTypes:=ts},ty,pos,af,gd⟩).run P w= .ok (.enter k (vs++cs).toArray) w:=by
  unfold execOp
  simp only [resolve,o.ev hx,H,vF,c8,fO,eD,invoke]
  simp only [List.append_toArray,List.nil_append,he]
 unfold Oper.wp
 rw [U]
 refine hc.mono fun e w' I=>?_
 have:=h e w' I
 cases e with
 | returned v=>exact J _ _ (this _ (o.put hn v))
 | panicked c=>exact this.elim
 | outgrown=>exact this.elim
end
theorem xO (hi:i<r)(hj:j<c):i*c+j<r*c:=by
 have:=dX c (show i+1≤r by omega)
 rw [dS] at this;omega
theorem iJ (hi:i≤64)(hc:c≤64):i*c≤4096:=fV hi hc
def LE (m:Option a0)(K b lb n:Nat)(zs:List Int)(v:aF)(w:a0):Prop:=∃A cap,v= By A n cap∧Lz m K b w lb A n cap zs
def LQ (m:Option a0)(K b lb n:Nat)(p:List Int→Prop)(v:aF)(w:a0):Prop:=∃A cap zs,v= By A n cap∧Lz m K b w lb A n cap zs∧p zs
def MQ (R C:Int)(L:aF→a0→Prop)(v:aF)(w:a0):Prop:=∃lv,v= .agg #[AI R,AI C,lv]∧L lv w
def En (r c:Nat)(f:Mx)(zs:List Int):Prop:=∀i j,i<r→j<c→zs.getD (i*c+j) 0=f i j
theorem LQ.imp {p q:List Int→Prop}(hK:K≤K')(hb:b'≤b)(hl:lb'≤lb)(hp:∀zs,p zs→q zs)(v:aF)(w:a0)(h:LQ m K b lb n p v w):LQ m K' b' lb' n q v w:=by
 obtain⟨A,cap,zs,rfl,o,H⟩:=h
 exact⟨A,cap,zs,rfl,o.mono hK hb hl,hp _ H⟩
theorem LE.lq {p:List Int→Prop}(hp:p zs)(v:aF)(w:a0)(h:LE m K b lb n zs v w):LQ m K b lb n p v w:=by
 obtain⟨A,cap,rfl,o⟩:=h
 exact⟨A,cap,zs,rfl,o,hp⟩
theorem MQ.imp {L L':aF→a0→Prop}(h:∀v w,L v w→L' v w)(v:aF)(w:a0)(hm:MQ R C L v w):MQ R C L' v w:=by
 obtain⟨lv,rfl,o⟩:=hm
 exact⟨lv,rfl,h _ _ o⟩
theorem En.cong {f g:Mx}(hfg:∀i j,i<r→j<c→f i j=g i j)(zs:List Int)(h:En r c f zs):En r c g zs:=fun i j hi hj=>(h i j hi hj).trans (hfg i j hi hj)
def ZF (w:a0)(A:Option a6)(n cap K:Nat)(zs:List Int):Prop:=∃ms,Zl w A n cap zs ms∧∀i,ms.getD i 0≤K
theorem ZF.mono (h:ZF w A n cap K zs)(hK:K≤K'):ZF w A n cap K' zs:=by
 obtain⟨ms,H,o⟩:=h
 exact⟨ms,H,fun i=>a7 (o i) hK⟩
theorem El.som (h:El none b w e z):El (some w0) b w e z:=by
 rcases h with h | ⟨_,o,_⟩
 ·exact bE h
 ·cases o
theorem Lz.som (h:Lz none K b w lb A n cap zs):Lz (some w0) K b w lb A n cap zs:=by
 obtain⟨es,H,J,I,o⟩:=h
 exact⟨es,H,J,I,fun i hi=>⟨(o i hi).1,(o i hi).2.som⟩⟩
theorem Lz.zf (h:Lz (some w0) K b w lb A n cap zs)(x:Ext w0 w):ZF w A n cap K zs:=h.zl x
theorem Lz.zf0 (h:Lz none K b w lb A n cap zs):ZF w A n cap K zs:=(h.som (w0:=w)).zl aB
theorem ZF.ln (h:ZF w A n cap K zs)(i:Nat):ln (zs.getD i 0)≤K:=by
 obtain⟨ms,o,H⟩:=h
 by_cases hi:i<n
 ·obtain⟨p,s,B,c,_,_,I⟩:=o.at hi
  exact a7 I.ln (H i)
 ·rw [bO,mX (by rw [o.len];omega)];exact bX _
theorem ZF.ext (h:ZF w A n cap K zs)(e:Ext w w'):ZF w' A n cap K zs:=by
 obtain⟨ms,H,o⟩:=h
 exact⟨ms,H.ext e,o⟩
theorem xI (h:ln x=0):x=0:=by
 have:=k9.1 (show (wd x.natAbs).length=0 from h)
 omega
theorem oT {x:Nat}(h:x≤18446744073709551615:=by decide):ln ((x:Nat):Int)≤1:=qJ (by omega) (by omega)
theorem GZ (h:x≠0):(wd x.natAbs).getD (ln x-1) 0≠0:=by
 have o:=PP (b:=WB) (by decide) x.natAbs
 rw [←H8] at o
 have H:(wd x.natAbs).length≠0:=fun e=>h (xI e)
 rcases o with o | o
 ·exact absurd o H
 ·exact o
theorem iS {s1 s2 s3 s4:Bool}{A1 A2 A3 A4:Option a6}{n1 n2 n3 n4 c1 c2 c3 c4:Nat}{x1 x2 x3 x4:Int}(hl:lb≤g)(hb:Bk w g 41 [.bool s1,By A1 n1 c1,.bool s2,By A2 n2 c2,.bool s3,By A3 n3 c3,.bool s4,By A4 n4 c4])(h1:Zr w b s1 A1 n1 c1 x1)(h2:Zr w b s2 A2 n2 c2 x2)(h3:Zr w b s3 A3 n3 c3 x3)(h4:Zr w b s4 A4 n4 c4 x4)(k1:n1≤K)(k2:n2≤K)(k3:n3≤K)(k4:n4≤K):Lz none K b w lb (some ⟨g,0,none⟩) 4 4 [x1,x2,x3,x4]:=
 ⟨[⟨s1,A1,n1,c1⟩,⟨s2,A2,n2,c2⟩,⟨s3,A3,n3,c3⟩,⟨s4,A4,n4,c4⟩],Own.mk_ hl hb (by decide) (by decide) G rfl,rfl,rfl,fun i hi=>by
  match i,hi with
  | 0,_=>exact⟨k1,bE h1⟩
  | 1,_=>exact⟨k2,bE h2⟩
  | 2,_=>exact⟨k3,bE h3⟩
  | 3,_=>exact⟨k4,bE h4⟩⟩
theorem FL {r c:Int}(hr:0≤r∧r≤64)(hc:0≤c∧c≤64):iX .mul .i64 r c=some (r*c):=by
 obtain⟨a,rfl⟩:∃a:Nat,r=a:=⟨r.toNat,by omega⟩
 obtain⟨d,rfl⟩:∃d:Nat,c=d:=⟨c.toNat,by omega⟩
 have h:=fV (show a≤64 by omega) (show d≤64 by omega)
 rw [kE (a:=a) (b:=d) G rfl,jA]
theorem UO.refl (A:Option a6)(w:a0):UpdO A w w:=⟨World.grownBy.refl _ _⟩
theorem UO.ext {a:a0}(h:UpdO A a w)(e:Ext w w'):UpdO A a w':=
 ⟨⟨e.below.os.trans h.by_.os,e.below.tape.trans h.by_.tape,e.below.output.trans h.by_.output,a7 h.by_.size e.size,fun k H o=>(e.below.block k (cJ H h.by_.size)).trans (h.by_.block k H o)⟩⟩
theorem UO.trans {a:a0}(h:UpdO A a w)(u:UpdO A w w'):UpdO A a w':=
 ⟨⟨u.by_.os.trans h.by_.os,u.by_.tape.trans h.by_.tape,u.by_.output.trans h.by_.output,a7 h.by_.size u.size,fun k H o=>(u.by_.block k (cJ H h.by_.size) o).trans (h.by_.block k H o)⟩⟩
theorem UO.upd {a:a0}(h:UpdO A a w)(u:Upd g w w')(hg:a.heap.size≤g):UpdO A a w':=
 ⟨⟨u.by_.os.trans h.by_.os,u.by_.tape.trans h.by_.tape,u.by_.output.trans h.by_.output,a7 h.by_.size u.size,fun k H o=>(u.by_.block k (cJ H h.by_.size) (fun e=>by injection e with e;omega)).trans (h.by_.block k H o)⟩⟩
theorem jM {α:Type}{l:List α}{a d:α}(hi:i<l.length):(l.set i a).getD k d=if k=i then a else l.getD k d:=by
 by_cases h:k=i
 ·subst h;rw [if_pos rfl,bO,List.getElem?_set_self hi];rfl
 ·rw [if_neg h,bO,List.getElem?_set_ne (fun e=>h e.symm),bO]
def j3 (R C:Int)(n:Nat):Prop:=(0≤R∧R≤64)∧(0≤C∧C≤64)∧(n:Int)=R*C
theorem lL {b:Int}(h:a≤b):bZ .leq a b=some true:=by simp only [bZ,decide_eq_true h]
theorem r7 {b:Int}(h:¬a≤b):bZ .leq a b=some false:=by simp only [bZ,decide_eq_false h]
theorem mK {b:Int}(h:a≥b):bZ .geq a b=some true:=by simp only [bZ,decide_eq_true h]
theorem yM {b:Int}(h:¬a≥b):bZ .geq a b=some false:=by simp only [bZ,decide_eq_false h]
theorem PY {b:Int}(h:a=b):bZ .eql a b=some true:=by subst h;simp [bZ]
theorem PZ {b:Int}(h:a≠b):bZ .eql a b=some false:=by simp [bZ,h]
def B1 (b:Nat)(z:Int)(v:aF)(w:a0):Prop:=∃g s A n c,v= By (some ⟨g,0,none⟩) 1 1∧Bk w g 41 (a4 s A n c)∧Zr w b s A n c z
def Bld (c q:Nat)(f:Mx)(zs:List Int):Prop:=∀k,k<q→zs.getD k 0=f (k/c) (k%c)
theorem Bld.step {f:Mx}(h:Bld c q f zs)(hq:q=i*c+j)(hj:j<c)(hl:zs.length=q):Bld c (q+1) f (zs++ [f i j]):=fun k _=>by
 by_cases o:k<q
 ·rw [xW];exact h k o
 ·have e:k=zs.length:=by omega
  rw [e,xV,hl,hq,cY,lR (by omega),gZ hj,rZ,gP hj,eA]
theorem Bld.en {f:Mx}(h:Bld c q f zs)(hq:q=r*c):En r c f zs:=fun i j hi hj=>by
 have o:=dX c (show i+1≤r by omega)
 rw [dS] at o
 rw [h (i*c+j) (by omega),cY,lR (by omega),gZ hj,rZ,gP hj,eA]
theorem D8 {f:Nat→Int}(h:∀i,i<n→ln (f i)≤K):ln (sm n f)≤K+n:=by
 induction n with
 | zero=>exact bX _
 | succ n ih=>exact a7 (k0 (ih fun i hi=>h i (by omega)) (a7 (h n (by omega)) (Nat.le_add_right K n))) (by omega)
theorem En.ln {f:Mx}(h:En r c f zs)(hz:ZF w A n cap K zs)(hi:i<r)(hj:j<c):ln (f i j)≤K:=by
 rw [←h i j hi hj];exact hz.ln _
end
section
open Go.ChangeShapes Go.WideShapes Go.ChangeAt Go.RowKit
theorem JW {enc:aO×aF→H}{d:DataW H}(hf:DataW.trod enc aJ W 0 (fun _=>true) true fuel 22 [v]=some (d,p)):∃A n cap zs ms,v= By A n cap∧Zl W A n cap zs ms∧n+ms.sum≤Rows.uptoBulk d:=by
 rcases Go.Deep.open_slice Tryz.underlying22 hf with⟨o,hx⟩ | ⟨a,n,cap,m,k,D,Pl,o,_,hl,hm,I,hx,hi⟩
 ·obtain rfl:=List.singleton_inj.1 o
  exact⟨none,0,0,[],[],rfl,⟨rfl,rfl,aI _,by decide,fun i hi=>by omega⟩,by simp⟩
 ·obtain rfl:=List.singleton_inj.1 o
  simp only [if_true] at I
  have hmm':=I.symm
  subst hmm'
  simp only [Prod.mk.injEq] at hx
  obtain⟨rfl,rfl⟩:=hx
  rw [Q7] at hi
  have aa:∀i,i<cap→∃(q:Bool×Option a6×Nat×Nat×Int),W.cell? (a.add (i*2))=some (.bool q.1)∧W.cell? (a.add (i*2+1))=some (By q.2.1 q.2.2.1 q.2.2.2.1)∧Zi W q.1 q.2.1 q.2.2.1 q.2.2.2.1 q.2.2.2.2∧q.2.2.1+1≤Rows.uptoBulk (D i):=by
   intro i U
   obtain⟨cs',hc,ht'⟩:=hi i U
   obtain⟨_,ae,J⟩:=World.cells?_some hc
   obtain⟨c0,c1,rfl⟩:=P4 ae
   have ab:DataW.trod enc aJ W 0 (fun _=>true) true k 41 [c0,c1]=some (D i,Pl i):=ht'
   obtain⟨s,B,nb,c,z,rfl,rfl,hz,hb,rx⟩:=JX ab
   refine⟨(s,B,nb,c,z),?_,?_,hz,hb⟩
   ·have:=J 0 (by simp)
    simpa [Go.Deep.add_add] using this
   ·have:=J 1 (by simp)
    simpa [Go.Deep.add_add] using this
  obtain⟨Q,hQ⟩:=Go.Deep.choose_lt aa
  refine⟨some a,n,cap,(d7 n).map (fun i=>(Q i).2.2.2.2),(d7 n).map (fun i=>(Q i).2.2.1),rfl,⟨by simp,by simp,hl,hm,fun i h=>?_⟩,?_⟩
  ·obtain⟨h1,h2,h3,_⟩:=hQ i (by omega)
   have e1:((d7 n).map (fun i=>(Q i).2.2.1)).getD i 0=(Q i).2.2.1:=by simp [bO,h]
   have e2:((d7 n).map (fun i=>(Q i).2.2.2.2)).getD i 0=(Q i).2.2.2.2:=by simp [bO,h]
   rw [e1,e2]
   exact⟨a,_,_,_,rfl,h1,h2,h3⟩
  ·have:=IA D (fun i=>(Q i).2.2.1) n (fun i h=>(hQ i (by omega)).2.2.2)
   simp only [Rows.uptoBulk]
   omega
theorem B5 {α:Type}{l:List α}(h:l.length=3):∃a b c,l= [a,b,c]:=by
 match l,h with
 | [a,b,c],_=>exact⟨a,b,c,rfl⟩
theorem OS:∃f0 f1 f2:Field,Tryz.prog.underlying 24=some (.struct #[f0,f1,f2])∧f0.type=3∧f0.offset=0∧f1.type=3∧f1.offset=1∧f2.type=22∧f2.offset=2:=
 ⟨_,_,_,Tryz.underlying24,rfl,rfl,rfl,rfl,rfl,rfl⟩
theorem Q5:Tryz.prog.cellsOf 24=3:=by kernel_rfl
theorem F5:Tryz.prog.cellsOf 3=1:=by kernel_rfl
theorem Q6:Tryz.prog.cellsOf 22=1:=by kernel_rfl
theorem JZ {enc:aO×aF→H}{d:DataW H}(hval:Value.okWide aJ W .any base 24 v)(h:DataW.Trod enc aJ W 0 (fun _=>true) true 24 v d p):∃(R C:Int) (A:Option a6) (n c:Nat) (zs:List Int) (ms:List Nat),v= .agg #[AI R,AI C,By A n c]∧Zl W A n c zs ms∧n+ms.sum≤Rows.uptoBulk d:=by
 obtain⟨f0,f1,f2,hu,t0,o0,t1,o1,t2,o2⟩:=OS
 obtain⟨fuel,U⟩:=h
 obtain⟨ys,n,_,hx,o,J,hf⟩:=DataW.trod_struct hu U
 rw [Q5] at o
 obtain⟨c0,c1,c2,ab⟩:=B5 o
 obtain⟨y0,y1,y2,rfl⟩:=B5 (show ys.length=3 from J)
 obtain⟨vs,rfl⟩:∃vs:Array aF,v= .agg vs:=by
  obtain⟨cs,h1,_⟩:=okWide_struct hu hval
  exact⟨cs,h1⟩
 have ac:vs.toList= [c0,c1,c2]:=ab
 obtain rfl:vs= #[c0,c1,c2]:=by
  have:=congrArg List.toArray ac
  simpa using this
 have g0:=hf 0 f0 rfl
 have g1:=hf 1 f1 rfl
 have g2:=hf 2 f2 rfl
 rw [t0,o0,F5] at g0
 rw [t1,o1,F5] at g1
 rw [t2,o2,Q6] at g2
 obtain⟨R,hR,_,_⟩:=DataW.trod_int Tryz.underlying3 (show DataW.trod enc aJ W 0 (fun _=>true) true n 3 [c0]=some y0 from g0)
 obtain⟨C,hC,_,_⟩:=DataW.trod_int Tryz.underlying3 (show DataW.trod enc aJ W 0 (fun _=>true) true n 3 [c1]=some y1 from g1)
 obtain⟨A,m,cap,zs,ms,rfl,I,_⟩:=JW (d:=y2.1) (p:=y2.2) (show DataW.trod enc aJ W 0 (fun _=>true) true n 22 [c2]=some y2 from g2)
 obtain rfl:=List.singleton_inj.1 hR
 obtain rfl:=List.singleton_inj.1 hC
 simp only [Prod.mk.injEq] at hx
 obtain⟨rfl,_⟩:=hx
 refine⟨R,C,A,m,cap,zs,ms,rfl,I,?_⟩
 simp only [Rows.uptoBulk,mW,Rows.uptoBulkAll]
 omega
theorem Zl.mat0 (h:Zl w A n c zs ms):ZF w A n c ms.sum zs:=⟨ms,h,fun i=>DK ms i⟩
end
section
open Go.RowKit
theorem nS (hR:(0≤R∧R≤64)):aR aJ 48 #[AI R] w (Gv w (Is (BY))):=by
 refine bQ Tryz.func48 G (n:=9) G (bq G) (args:= [AI R]) (bH [(0,AI R)] ⟨rfl,Ht⟩ (sr (mv 1 G (aE (sr (mv 1 G (aN G G G true (lL hR.1) (mv 2 G (aN G G G true (lL hR.2) (pu (v:= BY) G (mv 1 G (aE (bG ?_)))))))))))))
 refine bF [BY] G ⟨rfl,Ht⟩ ?_
 exact⟨_,rfl,rfl,aB⟩
theorem DY (hR:¬(0≤R∧R≤64)):aR aJ 48 #[AI R] w (Gv w (Is (Hs))):=by
 refine bQ Tryz.func48 G (n:=9) G (bq G) (args:= [AI R]) (bH [(0,AI R)] ⟨rfl,Ht⟩ (sr (mv 1 G (aE (aH ?_)))))
 by_cases o:0≤R
 ·have H:¬R≤64:=fun h=>hR ⟨o,h⟩
  refine aL (mv 1 G (aN G G G true (lL o) (mv 2 G (aN G G G false (r7 H) (pu (v:= Hs) G (mv 1 G (aE (bG (bF [F0] G ⟨rfl,Ht⟩ ?_)))))))))
  exact⟨_,rfl,rfl,aB⟩
 ·refine aL (mv 1 G (aN G G G false (r7 o) (mv 3 G (pu (v:= Hs) G (mv 1 G (aE (bG (bF [F0] G ⟨rfl,Ht⟩ ?_))))))))
  exact⟨_,rfl,rfl,aB⟩
theorem E3 (hr:r≤64)(hc:c≤64)(hn:na=r*c):aR aJ 24 #[.agg #[AI r,AI c,By Aa na capa]] w (Gv w (Is (AI 0))):=by
 have ac:=iJ hr hc
 refine bQ Tryz.func24 G (n:=24) G (bq G) (args:= [.agg #[AI r,AI c,By Aa na capa]]) (bH [(0,.agg #[AI r,AI c,By Aa na capa])] ⟨rfl,Ht⟩ (sr (bx [AI r,AI c,By Aa na capa] aB G G G fun H _ h _ _ J=>(mv 1 G (aE (aH (sr (pf H 0 G (aK G G (aQ bV h G) (cl (vs:= [AI r]) J (nS ⟨by omega,by omega⟩) G (by kernel_rfl) fun _ _ r8 I aa=>?_))))))))))
 obtain rfl:=r8
 refine pu (v:= Hs) G (mv 1 G (pf H 1 G (aK G G (aQ bV (h.ext I) G) (cl (vs:= [AI c]) aa (nS ⟨by omega,by omega⟩) G (by kernel_rfl) fun _ _ ab o U=>?_))))
 obtain rfl:=ab
 refine pu (v:= Hs) G (pu (v:= Hs) G (mv 1 G (pf H 2 G (aK G G (aQ cD (h.ext (I.t o)) G) (pu (v:= AI na) G (pf H 0 G (aK G G (aQ bV (h.ext (I.t o)) G) (pf H 1 G (aK G G (aQ bV (h.ext (I.t o)) G) (bC G G G ((r*c:Nat):Int) (kE (a:=r) (b:=c) G G) (aN G G G false (kC (a:=na) (b:=r*c) G G) (pu (v:= Hs) G (aS ?_)))))))))))))
 refine aM (aY G (bA (aM (sr (mv 1 G (aE (bG (bF [I0] G ⟨rfl,Ht⟩ ?_))))))))
 exact⟨_,rfl,rfl,U⟩
theorem NO (hR:¬(0≤R∧R≤64)):aR aJ 24 #[.agg #[AI R,AI C,By Aa na capa]] w (Gv w (Is (AI 1))):=by
 refine bQ Tryz.func24 G (n:=24) G (bq G) (args:= [.agg #[AI R,AI C,By Aa na capa]]) (bH [(0,.agg #[AI R,AI C,By Aa na capa])] ⟨rfl,Ht⟩ (sr (bx [AI R,AI C,By Aa na capa] aB G G G fun I _ h _ _ o=>(mv 1 G (aE (aH (sr (pf I 0 G (aK G G (aQ bV h G) (cl (vs:= [AI R]) o (DY hR) G (by kernel_rfl) fun _ _ J _ H=>?_))))))))))
 obtain rfl:=J
 refine pu (v:= BY) G (mv 5 G (pu (v:= BY) G (mv 10 G (pu (v:= BY) G (aE (bJ G (sr (mv 1 G (aE (bG (dZ (bF [AI 1] G ⟨rfl,Ht⟩ ?_))))))))))))
 exact⟨_,rfl,rfl,H⟩
theorem NN (hR:(0≤R∧R≤64))(hC:¬(0≤C∧C≤64)):aR aJ 24 #[.agg #[AI R,AI C,By Aa na capa]] w (Gv w (Is (AI 1))):=by
 refine bQ Tryz.func24 G (n:=24) G (bq G) (args:= [.agg #[AI R,AI C,By Aa na capa]]) (bH [(0,.agg #[AI R,AI C,By Aa na capa])] ⟨rfl,Ht⟩ (sr (bx [AI R,AI C,By Aa na capa] aB G G G fun U _ h _ _ o=>(mv 1 G (aE (aH (sr (pf U 0 G (aK G G (aQ bV h G) (cl (vs:= [AI R]) o (nS hR) G (by kernel_rfl) fun _ _ r8 e7 I=>?_))))))))))
 obtain rfl:=r8
 refine pu (v:= Hs) G (mv 1 G (pf U 1 G (aK G G (aQ bV (h.ext e7) G) (cl (vs:= [AI C]) I (DY hC) G (by kernel_rfl) fun _ _ J _ H=>?_))))
 obtain rfl:=J
 refine pu (v:= BY) G (pu (v:= BY) G (mv 10 G (pu (v:= BY) G (aE (bJ G (sr (mv 1 G (aE (bG (dZ (bF [AI 1] G ⟨rfl,Ht⟩ ?_)))))))))))
 exact⟨_,rfl,rfl,H⟩
theorem NM (hr:r≤64)(hc:c≤64)(hn:na≠r*c):aR aJ 24 #[.agg #[AI r,AI c,By Aa na capa]] w (Gv w (Is (AI 1))):=by
 have ac:=iJ hr hc
 refine bQ Tryz.func24 G (n:=24) G (bq G) (args:= [.agg #[AI r,AI c,By Aa na capa]]) (bH [(0,.agg #[AI r,AI c,By Aa na capa])] ⟨rfl,Ht⟩ (sr (bx [AI r,AI c,By Aa na capa] aB G G G fun H _ h _ _ J=>(mv 1 G (aE (aH (sr (pf H 0 G (aK G G (aQ bV h G) (cl (vs:= [AI r]) J (nS ⟨by omega,by omega⟩) G (by kernel_rfl) fun _ _ r8 I aa=>?_))))))))))
 obtain rfl:=r8
 refine pu (v:= Hs) G (mv 1 G (pf H 1 G (aK G G (aQ bV (h.ext I) G) (cl (vs:= [AI c]) aa (nS ⟨by omega,by omega⟩) G (by kernel_rfl) fun _ _ ab o U=>?_))))
 obtain rfl:=ab
 refine pu (v:= Hs) G (pu (v:= Hs) G (mv 1 G (pf H 2 G (aK G G (aQ cD (h.ext (I.t o)) G) (pu (v:= AI na) G (pf H 0 G (aK G G (aQ bV (h.ext (I.t o)) G) (pf H 1 G (aK G G (aQ bV (h.ext (I.t o)) G) (bC G G G ((r*c:Nat):Int) (kE (a:=r) (b:=c) G G) (aN G G G true (nU (a:=na) (b:=r*c) G G) (pu (v:= BY) G (aS ?_)))))))))))))
 refine aM (bJ G (sr (mv 1 G (aE (bG (dZ (bF [AI 1] G ⟨rfl,Ht⟩ ?_)))))))
 exact⟨_,rfl,rfl,U⟩
theorem NK (h:¬j3 R C na):aR aJ 24 #[.agg #[AI R,AI C,By Aa na capa]] w (Gv w (Is (AI 1))):=by
 by_cases o:0≤R∧R≤64
 ·by_cases H:0≤C∧C≤64
  ·obtain⟨r,rfl⟩:∃r:Nat,R=r:=⟨R.toNat,by omega⟩
   obtain⟨c,rfl⟩:∃c:Nat,C=c:=⟨C.toNat,by omega⟩
   exact NM (by omega) (by omega) (fun e=>h ⟨o,H,by rw [e];exact jA r c⟩)
  ·exact NN o H
 ·exact NO o
theorem xY (h:j3 R C na):aR aJ 24 #[.agg #[AI R,AI C,By Aa na capa]] w (Gv w (Is (AI 0))):=by
 obtain⟨_,_,o⟩:=h
 obtain⟨r,rfl⟩:∃r:Nat,R=r:=⟨R.toNat,by omega⟩
 obtain⟨c,rfl⟩:∃c:Nat,C=c:=⟨C.toNat,by omega⟩
 exact E3 (by omega) (by omega) (by rw [←jA] at o;omega)
theorem sU (hr:r≤64)(hc:c≤64)(hn:n=r*c):j3 (r:Int) (c:Int) n:=⟨⟨by omega,by omega⟩,⟨by omega,by omega⟩,by rw [hn];exact jA r c⟩
theorem E0 {kf:Nat}{f:Mx}(hb:b≤w.heap.size)(hlb:lb≤w.heap.size)(hr:r≤64)(hc:c≤64)(hen:∀(args:Array aF) (w:a0),(callFunc kf args).run aJ w= .ok (.enter kf args) w)(hK:∀i j,i<r→j<c→ln (f i j)≤K)(hf:∀(i j:Nat) w',i<r→j<c→Ext w w'→aR aJ kf ([Value.int .i64 (i:Int),AI (j:Int)]++cs).toArray w' (Gv w' (ZR w.heap.size (f i j)))):aR aJ 73 #[AI r,AI c,.func (.func kf) #[] cs.toArray] w (Gv w (MQ (r:Int) (c:Int) (LQ none K b lb (r*c) (En r c f)))):=by
 have fz:=iJ hr hc
 refine bQ Tryz.func73 G (n:=37) G (bq G) (args:= [AI r,AI c,.func (.func kf) #[] cs.toArray]) (bH [(0,AI r),(1,AI c),(2,.func (.func kf) #[] cs.toArray)] ⟨rfl,rfl,rfl,Ht⟩ (sr (al [I0,I0,S0] aB (fun _=>by kernel_rfl) G fun g1 _ cz ey _ I=>(aE (sr (mv 4 G (bC G G G ((r*c:Nat):Int) (kE (a:=r) (b:=c) G G) (AQ (k:=r*c) none K w.heap.size G G G (by omega) (by decide) fun J v7 da aw bz=>?_))))))))
 have gt:g1<J:=by rw [←da];exact cz.lt
 have cj:J≤v7.heap.size:=by have:=(aw.block _ G).2;exact Nat.le_of_lt this
 have cx:w.heap.size≤J:=by rw [←da];exact I.size
 clear da
 have H:=I.trans bz
 have cu:=aw.block
 refine pu (v:= .agg #[AI r,AI c,By (some ⟨J,0,none⟩) 0 (r*c)]) G (dM G (z:= .agg #[I0,I0,S0]) (vs:= [I0,I0,S0]) (fun _=>by kernel_rfl) G fun o _ nb=>?_)
 have bh:=nb.bk
 have bc:w.heap.size≤o:=by rw [←nb.at_];exact H.size
 have gk:g1<o:=by rw [←nb.at_];exact (cz.ext bz).lt
 have bg:∀p:a6,(some ⟨J,0,none⟩)=some p→p.block≠o:=fun p hp=>by have:=(aw).block p hp;have:=nb.at_;omega
 have av:=nb.ext
 clear nb
 have ah:=H.trans av
 refine so bS bh [AI r,AI c,By (some ⟨J,0,none⟩) 0 (r*c)] ah bc G G G G fun fk dl cd bw=>(aE (aH (sr (mv 2 G (aE (bB ?_))))))
 refine d6 (T:=a0×Nat×Nat×Option a6×Nat×List Int) (fun⟨wr,i,q,LA,lc,zs⟩=> [(0,AI r),(1,AI c),(2,.func (.func kf) #[] cs.toArray),(6,a9 g1 0),(7,a9 o 0),(10,AI r),(11,AI c),(12,AI r),(13,AI c),(14,AI ((r*c:Nat):Int)),(15,By (some ⟨J,0,none⟩) 0 (r*c)),(16,.agg #[AI r,AI c,By (some ⟨J,0,none⟩) 0 (r*c)]),(17,AI r),(18,AI i)]) (fun⟨wr,i,q,LA,lc,zs⟩=>wr) (fun⟨wr,i,q,LA,lc,zs⟩=>(Ext w wr)∧(i≤r)∧(Bk wr g1 24 [I0,I0,S0])∧(Bk wr o 24 [AI r,AI c,By LA q lc])∧(J≤wr.heap.size)∧(Lz none K w.heap.size wr J LA q lc zs)∧(∀p:a6,LA=some p→p.block≠g1)∧(∀p:a6,LA=some p→p.block≠o)∧(q=i*c)∧(Bld c q f zs)) (fun⟨wr,i,q,LA,lc,zs⟩=>r-i)
  (⟨fk,0,0,(some ⟨J,0,none⟩),(r*c),[]⟩:a0×Nat×Nat×Option a6×Nat×List Int) ⟨bw,(by omega),((cz.ext (bz.t av)).vN cd),dl,(a7 (a7 cj av.size) cd.by_.size),((aw.ext av).updT bh cd bg),(show∀p:a6,(some ⟨J,0,none⟩)=some p→p.block≠g1 from fun p hp=>by have:=cu p hp;omega),bg,(Nat.zero_mul c).symm,(fun k h=>absurd h (Nat.not_lt_zero k))⟩ G ⟨rfl,rfl,rfl,rfl,rfl,rfl,rfl,rfl,rfl,rfl,rfl,rfl,rfl,rfl,Ht⟩ ?_
 rintro⟨wr,i,q,LA,lc,zs⟩ ⟨I,_,b_g1,b_g13,l_LAb,l_LA,l_LA_g1,l_LA_g13,hq,hz⟩
 refine d4 [(0,AI r),(1,AI c),(2,.func (.func kf) #[] cs.toArray),(6,a9 g1 0),(7,a9 o 0),(10,AI r),(11,AI c),(12,AI r),(13,AI c),(14,AI ((r*c:Nat):Int)),(15,By (some ⟨J,0,none⟩) 0 (r*c)),(16,.agg #[AI r,AI c,By (some ⟨J,0,none⟩) 0 (r*c)]),(17,AI r),(18,AI i)] wr G ⟨rfl,rfl,rfl,rfl,rfl,rfl,rfl,rfl,rfl,rfl,rfl,rfl,rfl,rfl,Ht⟩ ?_
 have fa:=l_LA.block
 refine aH ?_
 by_cases gn:i<r
 ·refine aL (aN G G G true (dB (a:=i) (b:=r) G G) (aE (aH (bJ G (bA (aM (aH (bB (sr (mv 2 G (aE (sr (mv 1 G ?_)))))))))))))
  refine mv 1 G (aE (bB ?_))
  refine d6 (T:=a0×Nat×Nat×Option a6×Nat×List Int) (fun⟨wi,j,p,LB,ld,ys⟩=> [(0,AI r),(1,AI c),(2,.func (.func kf) #[] cs.toArray),(6,a9 g1 0),(7,a9 o 0),(8,AI i),(10,AI r),(11,AI c),(12,AI r),(13,AI c),(14,AI ((r*c:Nat):Int)),(15,By (some ⟨J,0,none⟩) 0 (r*c)),(16,.agg #[AI r,AI c,By (some ⟨J,0,none⟩) 0 (r*c)]),(17,AI r),(18,AI i),(19,BY),(20,AI i),(21,AI c),(22,AI j)]) (fun⟨wi,j,p,LB,ld,ys⟩=>wi) (fun⟨wi,j,p,LB,ld,ys⟩=>(Ext w wi)∧(j≤c)∧(Bk wi g1 24 [I0,I0,S0])∧(Bk wi o 24 [AI r,AI c,By LB p ld])∧(J≤wi.heap.size)∧(Lz none K w.heap.size wi J LB p ld ys)∧(∀p:a6,LB=some p→p.block≠g1)∧(∀p:a6,LB=some p→p.block≠o)∧(p=i*c+j)∧(Bld c p f ys)) (fun⟨wi,j,p,LB,ld,ys⟩=>c-j)
   (⟨wr,0,q,LA,lc,zs⟩:a0×Nat×Nat×Option a6×Nat×List Int) ⟨I,(by omega),b_g1,b_g13,l_LAb,l_LA,l_LA_g1,l_LA_g13,(by omega),hz⟩ G ⟨rfl,rfl,rfl,rfl,rfl,rfl,rfl,rfl,rfl,rfl,rfl,rfl,rfl,rfl,rfl,rfl,rfl,rfl,rfl,Ht⟩ ?_
  rintro⟨wi,j,p,LB,ld,ys⟩ ⟨I,_,b_g1,b_g13,l_LBb,l_LB,l_LB_g1,l_LB_g13,fh,dd⟩
  refine d4 [(0,AI r),(1,AI c),(2,.func (.func kf) #[] cs.toArray),(6,a9 g1 0),(7,a9 o 0),(8,AI i),(10,AI r),(11,AI c),(12,AI r),(13,AI c),(14,AI ((r*c:Nat):Int)),(15,By (some ⟨J,0,none⟩) 0 (r*c)),(16,.agg #[AI r,AI c,By (some ⟨J,0,none⟩) 0 (r*c)]),(17,AI r),(18,AI i),(19,BY),(20,AI i),(21,AI c),(22,AI j)] wi G ⟨rfl,rfl,rfl,rfl,rfl,rfl,rfl,rfl,rfl,rfl,rfl,rfl,rfl,rfl,rfl,rfl,rfl,rfl,rfl,Ht⟩ ?_
  have bu:=l_LB.block
  refine aH ?_
  have gj:=iJ (show i≤64 by omega) hc
  by_cases fr:j<c
  ·refine aL (aN G G G true (dB (a:=j) (b:=c) G G) (aE (aH (bJ G (bA (aM (aH (bB (sr (mv 2 G (aE ?_)))))))))))
   refine dP cF 7 [] [Is (a9 o 2),Is (By LB p ld),Is (.func (.func kf) #[] cs.toArray),Is (AI i),Is (AI j),ZR w.heap.size (f i j),B1 w.heap.size (f i j)] [[],[0],[],[],[],[2,3,4],[5]] [[],[0],[],[],[],[2,3,4],[2,3,4,5],[0,1,2,3,4,5,6],[0,1,2,3,4,5,6,7],[0,1,2,3,4,5,6,7,8]] rfl
    (aD G G (aA G G ?_) (aD G G (aA G G ?_) (aD G G (aA G G ?_) (aD G G (aA G G ?_) (aD G G (aA G G ?_) (aD G G (aA G G ?_) (aD G G (aA G G ?_) dF))))))) ?_
   ·exact fun _ _=>a8 (pf o 2 G (aC G aB G))
   ·exact fun _ ez=>dk G G (a8 (aK G G (aQ cD (b_g13.ext ez) G) (aC G aB G)))
   ·exact fun _ _=>a8 (mv 1 G (aC G aB G))
   ·exact fun _ _=>a8 (mv 1 G (aC G aB G))
   ·exact fun _ _=>a8 (mv 1 G (aC G aB G))
   ·intro _ ep
    have H:=I.trans ep
    refine dk G G (dk G G (dk G G (a8 (oE [AI i,AI j] G G G hen (by decide) (hf i j _ (by omega) (by omega) H) ?_))))
    rintro _ _ ⟨_,rfl,fd,dh⟩
    refine bL ?_
    have ah:=H.trans dh
    obtain⟨_,_,_,_,rfl,fb⟩:=fd
    exact aC G dh ⟨_,_,_,_,rfl,fb⟩
   ·intro _ ce
    have H:=I.trans ce
    refine aT G G fun _ _ ft _ fe=>?_
    obtain⟨fo,fq,fg,fj,rfl,cm⟩:=ft
    have cm:=cm.ext fe
    refine a8 (jX G G (k:=1) (e:=41) (a4 fo fq fg fj) (fun _=>by kernel_rfl) fun cg _ nb=>?_)
    have dm:=nb.bk
    have fy:w.heap.size≤cg:=by rw [←nb.at_];exact H.size
    have gc:o<cg:=by rw [←nb.at_];exact (b_g13.ext ce).lt
    have fv:∀p:a6,LB=some p→p.block≠cg:=fun p hp=>by have:=((l_LB.ext ce)).block p hp;have:=nb.at_;omega
    have bv:=nb.ext
    clear nb
    have ah:=H.trans bv
    exact aC G bv ⟨_,_,_,_,_,rfl,dm,(cm.ext bv)⟩
   ·intro _ ab
    have H:=I.trans ab
    refine dk G G (dk G G (dk G G (dk G G (dk G G (aT G G fun _ _ du _ df=>?_)))))
    obtain⟨_,_,_,_,rfl,ba⟩:=du
    have ba:=ba.ext df
    refine aT G G fun _ _ dw _ bi=>?_
    obtain⟨_,dy,dc,dq,eg,rfl,aa,ac⟩:=dw
    have aa:=aa.ext bi
    have ac:=ac.ext bi
    refine a8 ?_
    have ar:=(l_LB.ext ab)
    obtain⟨_,_⟩:=ar.own
    refine vO (e:=⟨dy,dc,dq,eg⟩) (z:=f i j) G G G ar (a7 l_LBb ab.size) aa (bE ac) (ac.le (hK i j (by omega) (by omega))) fun bj az dn aj U ak=>?_
    have ah:=U.ext H (fun p hp=>by have:=bu p hp;omega)
    have ag:J≤dn.heap.size:=a7 (a7 l_LBb ab.size) U.size
    have cn:=nM ak (b_g1.ext ab).lt l_LB_g1
    have ai:=nM ak (b_g13.ext ab).lt l_LB_g13
    have em:=aj.block
    refine pf o 2 G ?_
    have au:=((b_g13.ext ab).updO U l_LB_g13)
    refine jC G G G cV G au (bq G) G [AI r,AI c,By bj (p+1) az] G fun ee bo ae _=>?_
    have bw:=ae.ext ah bc
    refine aS (dA (cC (aM (aL (bC G G G ((j+1:Nat):Int) (bW (a:=j) (b:=1) G G) (mv 1 G (aS (cB (⟨ee,j+1,p+1,bj,az,ys++ [f i j]⟩:a0×Nat×Nat×Option a6×Nat×List Int) ⟨bw,(by omega),(((b_g1.ext ab).updO U l_LB_g1).vN ae),bo,(a7 ag ae.by_.size),(aj.updT au ae ai),cn,ai,(by omega),(dd.step fh fr l_LB.len)⟩ (show c-(j+1)<c-j by omega) G ⟨rfl,rfl,rfl,rfl,rfl,rfl,rfl,rfl,rfl,rfl,rfl,rfl,rfl,rfl,rfl,rfl,rfl,rfl,rfl,Ht⟩))))))))
  ·refine aL (aN G G G false (dK (a:=j) (b:=c) G G) (aE (aH (aY G (cM (cK (cT (cL (cC (aM (aL (bC G G G ((i+1:Nat):Int) (bW (a:=i) (b:=1) G G) (mv 1 G ?_)))))))))))))
   refine aS (cB (⟨wi,i+1,p,LB,ld,ys⟩:a0×Nat×Nat×Option a6×Nat×List Int) ⟨I,(by omega),b_g1,b_g13,l_LBb,l_LB,l_LB_g1,l_LB_g13,(show p=(i+1)*c by rw [gO];omega),dd⟩ (show r-(i+1)<r-i by omega) G ⟨rfl,rfl,rfl,rfl,rfl,rfl,rfl,rfl,rfl,rfl,rfl,rfl,rfl,rfl,Ht⟩)
 ·refine aL (aN G G G false (dK (a:=i) (b:=r) G G) (aE (aH (aY G (cM (cK (cT (cL (aM (sr (lo bS b_g13 [AI r,AI c,By LA q lc] G G G ?_)))))))))))
  have aq:=b_g1
  refine so bS aq [AI r,AI c,By LA q lc] I ey G G G G fun _ cf eh H=>(aE (bG (bF [.agg #[AI r,AI c,By LA q lc]] G ⟨⟨_,rfl,bY bS cf [AI r,AI c,By LA q lc] G (bq G) rfl⟩,Ht⟩ ?_)))
  have ew:q=r*c:=by rw [hq,show i=r by omega]
  subst ew
  exact⟨_,rfl,⟨_,rfl,_,_,_,rfl,((l_LA.updT aq eh l_LA_g1)).mono (aI K) hb (a7 hlb cx),hz.en rfl⟩,H⟩
theorem DZ (hb:b≤w.heap.size)(hlb:lb≤w.heap.size)(hxa:ZF w Aa na capa K zs)(hna:na≤1048576)(hKB:K≤17179869184):aR aJ 65 #[By Aa na capa,.func (.func 46) #[] #[]] w (Gv w (LE none K b lb na zs)):=by
 obtain⟨msa,aq,bh⟩:=hxa
 refine bQ Tryz.func65 G (n:=26) G (bq G) (args:= [By Aa na capa,.func (.func 46) #[] #[]]) (bH [(0,By Aa na capa),(1,.func (.func 46) #[] #[])] ⟨rfl,rfl,Ht⟩ (sr (mv 1 G (aE (sr (mv 1 G (pu (v:= AI na) G (sL (k:=na) none K w.heap.size G G G fun o v2 ba iS e5=>?_))))))))
 have ak:o≤v2.heap.size:=by have:=(iS.block _ G).2;exact Nat.le_of_lt this
 have ar:w.heap.size≤o:=by rw [←ba];exact (Ext.refl w).size
 clear ba
 have h:=(Ext.refl w).trans e5
 have dl:=iS.block
 refine mv 1 G (aE (aH (sr (mv 1 G (pu (v:= AI na) G (mv 1 G (aE (bB ?_))))))))
 have az:=iS
 rw [AW zs na] at az
 refine d6 (T:=a0×Nat) (fun⟨wr,i⟩=> [(0,By Aa na capa),(1,.func (.func 46) #[] #[]),(4,By none 0 0),(5,By (some ⟨o,0,none⟩) na na),(8,By Aa na capa),(9,AI na),(10,By (some ⟨o,0,none⟩) na na),(11,By Aa na capa),(12,AI na),(13,AI i)]) (fun⟨wr,i⟩=>wr) (fun⟨wr,i⟩=>(Ext w wr)∧(i≤na)∧(o≤wr.heap.size)∧(Lz none K w.heap.size wr o (some ⟨o,0,none⟩) na na (jY zs na i))) (fun⟨wr,i⟩=>na-i)
  (⟨v2,0⟩:a0×Nat) ⟨h,(by omega),ak,az⟩ G ⟨rfl,rfl,rfl,rfl,rfl,rfl,rfl,rfl,rfl,rfl,Ht⟩ ?_
 rintro⟨wr,i⟩ ⟨h,_,l_someg10noneb,l_someg10none⟩
 refine d4 [(0,By Aa na capa),(1,.func (.func 46) #[] #[]),(4,By none 0 0),(5,By (some ⟨o,0,none⟩) na na),(8,By Aa na capa),(9,AI na),(10,By (some ⟨o,0,none⟩) na na),(11,By Aa na capa),(12,AI na),(13,AI i)] wr G ⟨rfl,rfl,rfl,rfl,rfl,rfl,rfl,rfl,rfl,rfl,Ht⟩ ?_
 have bz:=l_someg10none.block
 refine aH ?_
 by_cases co:i<na
 ·refine aL (aN G G G true (dB (a:=i) (b:=na) G G) (aE (aH (bJ G (bA (aM (aH (bB (sr (mv 1 G ?_))))))))))
  obtain⟨cj,ai,aj,au,cf,bc,bv⟩:=aq.at (i:=i) (by omega)
  refine aX G G G bM aG.size i G cj cf (aK G G (bc _ h _ _ aG) (dM G (z:= .agg #[F0,S0]) (vs:= [F0,S0]) (fun _=>by kernel_rfl) G fun g9 _ nb=>?_))
  have H:=nb.bk
  have bo:w.heap.size≤g9:=by rw [←nb.at_];exact h.size
  have ab:∀p:a6,(some ⟨o,0,none⟩)=some p→p.block≠g9:=fun p hp=>by have:=(l_someg10none).block p hp;have:=nb.at_;omega
  have U:=nb.ext
  clear nb
  have cm:=h.trans U
  refine mv 1 G (so aG H [.bool ai,By aj (msa.getD i 0) au] cm bo G G G G fun _ aw ao ag=>(aE (aL (mv 3 G (lo aG aw [.bool ai,By aj (msa.getD i 0) au] G G G (oE [.agg #[.bool ai,By aj (msa.getD i 0) au]] G G G (enters_of Tryz.func46 (by kernel_rfl) G) (by decide) (nP ag.size (bv.ext ag) (a7 (bh i) (aZ hKB G))) ?_))))))
  rintro _ _ ⟨_,rfl,cz,aa⟩
  refine bL ?_
  have cg:=ag.trans aa
  obtain⟨dd,da,cu,cx,rfl,bi⟩:=cz
  obtain⟨bj,_,_,_,_,I,_,ah,bw⟩:=((((l_someg10none.ext U).updT H ao ab).ext aa)).at (i:=i) (by omega)
  have bu:=bw.zr
  have dm:ln ((jY zs na i).getD i 0)≤K:=bu.ln_le ah
  refine aX G G G bM aG.size i G bj I ?_
  have ae:=(((l_someg10none.ext U).updT H ao ab).ext aa)
  obtain⟨_,_⟩:=ae.own
  refine kL (e:=⟨dd,da,cu,cx⟩) (z:=(zs.getD i 0)) G G G I ae (bE bi) (bi.le (a7 bv.ln (bh i))) fun bg av ac=>?_
  have dc:=ac.ext cg (fun p hp=>by have:=bz p hp;omega)
  have J:o≤bg.heap.size:=a7 (a7 (a7 (a7 l_someg10noneb U.size) ao.by_.size) aa.size) ac.size
  refine aS (cC (aM (aL (bC G G G ((i+1:Nat):Int) (bW (a:=i) (b:=1) G G) (mv 1 G (aS ?_))))))
  have cd:=av
  rw [AX aq.len co] at cd
  refine cB (⟨bg,i+1⟩:a0×Nat) ⟨dc,(by omega),J,cd⟩ (show na-(i+1)<na-i by omega) G ⟨rfl,rfl,rfl,rfl,rfl,rfl,rfl,rfl,rfl,rfl,Ht⟩
 ·refine aL (aN G G G false (dK (a:=i) (b:=na) G G) (aE (aH (aY G (cM (cK (cT (cL (aM (sr (mv 2 G (aE (bG ?_)))))))))))))
  refine bF [By (some ⟨o,0,none⟩) na na] G ⟨rfl,Ht⟩ ?_
  have ce:=(l_someg10none).mono (aI _) hb (a7 hlb ar)
  rw [show i=na by omega,AY aq.len] at ce
  exact⟨_,rfl,⟨_,_,rfl,ce⟩,h⟩
theorem NH (hb:b≤w.heap.size)(hlb:lb≤w.heap.size)(hxa:ZF w Aa na capa K zs)(hr:r≤64)(hc:c≤64)(hna:na=r*c)(hKB:K≤17179869184):aR aJ 63 #[.agg #[AI r,AI c,By Aa na capa]] w (Gv w (T2 (MQ ((r:Nat):Int) ((c:Nat):Int) (LE none K b lb na zs)) (Is (AI 0)))):=by
 have df:=hxa
 obtain⟨msa,cm,da⟩:=hxa
 have dh:=iJ hr hc
 refine bQ Tryz.func63 G (n:=19) G (bq G) (args:= [.agg #[AI r,AI c,By Aa na capa]]) (bH [(0,.agg #[AI r,AI c,By Aa na capa])] ⟨rfl,Ht⟩ (sr (bx [AI r,AI c,By Aa na capa] aB G G G fun g1 _ aa _ _ cn=>(dG [I0,I0,S0] cn aa.lt (fun _=>by kernel_rfl) G fun g6 _ bh au _ e8 cf=>(mv 1 G (aE (aH (sr (lo bS (aa.ext e8) [AI r,AI c,By Aa na capa] G G G (cl (vs:= [.agg #[AI r,AI c,By Aa na capa]]) cf (E3 (by omega) (by omega) hna) G (by kernel_rfl) fun _ ak dc U ai=>?_))))))))))
 obtain rfl:=dc
 refine mv 1 G (aE (sr (mv 1 G (aN G G G false (by decide) (aE (aY G (bA (aM (aH ?_)))))))))
 obtain⟨ag,aj,_,ao,_,_⟩:∃lb,lb≤ak.heap.size∧ak.heap.size≤lb∧w.heap.size≤lb∧g1<lb∧g6<lb:=⟨ak.heap.size,aI _,aI _,ai.size,(aa.ext (e8.t U)).lt,(bh.ext U).lt⟩
 refine dP cF 8 [] [Is (a9 g1 0),Is (AI r),Is (a9 g1 1),Is (AI c),Is (a9 g1 2),Is (By Aa na capa),LE none K w.heap.size ag na zs,MQ ((r:Nat):Int) ((c:Nat):Int) (LE none K w.heap.size ag na zs)] [[],[0],[],[2],[],[4],[5],[1,3,6]] [[],[0],[],[2],[],[4],[4,5],[0,1,2,3,4,5,6],[0,1,2,3,4,5,6,7],[0,1,2,3,4,5,6,7,8]] rfl
  (aD G G (aA G G ?_) (aD G G (aA G G ?_) (aD G G (aA G G ?_) (aD G G (aA G G ?_) (aD G G (aA G G ?_) (aD G G (aA G G ?_) (aD G G (aA G G ?_) (aD G G (aA G G ?_) dF)))))))) ?_
 ·exact fun _ _=>a8 (pf g1 0 G (aC G aB G))
 ·exact fun _ ce=>dk G G (a8 (aK G G (aQ bV (aa.ext (e8.t (U.t ce))) G) (aC G aB G)))
 ·exact fun _ _=>a8 (pf g1 1 G (aC G aB G))
 ·exact fun _ cx=>dk G G (a8 (aK G G (aQ bV (aa.ext (e8.t (U.t cx))) G) (aC G aB G)))
 ·exact fun _ _=>a8 (pf g1 2 G (aC G aB G))
 ·exact fun _ bz=>dk G G (a8 (aK G G (aQ cD (aa.ext (e8.t (U.t bz))) G) (aC G aB G)))
 ·intro _ av
  have ab:=ai.trans av
  refine dk G G (a8 (cl (vs:= [By Aa na capa,.func (.func 46) #[] #[]]) ab (DZ ab.size (a7 aj av.size) ((show ZF w _ _ _ _ _ from⟨msa,cm,da⟩).ext ab) (by omega) hKB) G (by kernel_rfl) fun _ _ cg cj bu=>?_))
  obtain⟨_,_,rfl,ah⟩:=cg
  have co:=ah.block
  exact aC G cj ⟨_,_,rfl,ah⟩
 ·intro _ _
  refine dk G G (dk G G (aT G G fun _ _ cd _ cz=>?_))
  obtain⟨bc,bv,rfl,J⟩:=cd
  have cu:=J.block
  have J:=J.ext cz
  refine a8 (pu (v:= .agg #[AI r,AI c,By bc na bv]) G ?_)
  exact aC G aB ⟨_,rfl,⟨_,_,rfl,J⟩⟩
 ·intro _ bg
  have ab:=ai.trans bg
  refine dk G G (dk G G (dk G G (dk G G (dk G G (dk G G (aT G G fun _ _ bi _ ba=>?_))))))
  obtain⟨_,_,rfl,I⟩:=bi
  have bw:=I.block
  have I:=I.ext ba
  refine aT G G fun _ _ bj _ aw=>?_
  obtain⟨_,rfl,⟨o,H,rfl,h⟩⟩:=bj
  have ae:=h.block
  have h:=h.ext aw
  refine a8 ?_
  have ac:=(bh.ext (U.t bg))
  refine so bS ac [AI r,AI c,By o na H] ab au G G G G fun _ aq az bu=>(mv 1 G (aS (dA (aM (bG (bF [.agg #[AI r,AI c,By o na H],I0] G ⟨⟨_,rfl,bY bS aq [AI r,AI c,By o na H] G (bq G) rfl⟩,rfl,Ht⟩ ?_))))))
  exact⟨_,rfl,⟨_,_,rfl,⟨_,rfl,⟨_,_,rfl,((h.updT ac az (show∀p:a6,o=some p→p.block≠g6 from fun p hp=>by have:=ae p hp;omega))).mono (aI _) hb (a7 hlb ao)⟩⟩,rfl⟩,bu⟩
theorem MW (hx:Zi w sa Aa na ca x)(la:na≤1048576):aR aJ 50 #[O sa Aa na ca] w (Gv w (ZOR w.heap.size sa na x)):=by
 have cn:=hx
 obtain⟨xs,ba,co⟩:=cn
 have Lx:ln x≤1048576:=a7 hx.ln la
 refine bQ Tryz.func50 G (n:=10) G (bq G) (args:= [O sa Aa na ca]) (bH [(0,O sa Aa na ca)] ⟨rfl,Ht⟩ (sr (bx (a4 sa Aa na ca) aB G G G fun g1 _ aj _ _ cg=>(dG [F0,S0] cg aj.lt (fun _=>by kernel_rfl) G fun _ v7 cu ak _ e8 ae=>(aE (aH ?_))))))
 refine dP cF 7 [] [Is (a9 g1 0),Is (.bool sa),fun v' w'=>∃g,v'= By (some ⟨g,0,none⟩) 0 0∧v7.heap.size≤g∧Bk w' g 45 [],Is (a9 g1 1),Is (By Aa na ca),fun v' w'=>∃A c,v'= By A na c∧Own w' w.heap.size 45 1 A na c (xs.map bD),ZOR w.heap.size sa na x] [[],[0],[],[],[3],[2,4],[1,5]] [[],[0],[],[],[3],[2,3,4],[0,1,2,3,4,5],[0,1,2,3,4,5,6]] rfl
  (aD G G (aA G G ?_) (aD G G (aA G G ?_) (aD G G (aA G G ?_) (aD G G (aA G G ?_) (aD G G (aA G G ?_) (aD G G (aA G G ?_) (aD G G (aA G G ?_) dF))))))) ?_
 ·exact fun _ _=>a8 (pf g1 0 G (aC G aB G))
 ·exact fun _ bw=>dk G G (a8 (aK G G (aQ fU (aj.ext (e8.t bw)) G) (aC G aB G)))
 ·intro _ bo
  have h:=ae.trans bo
  refine a8 (jX G G (k:=0) (e:=45) [] (fun _=>by kernel_rfl) fun da _ nb=>?_)
  have ao:=nb.bk
  have az:=nb.ext
  have au:v7.heap.size≤da:=by rw [←nb.at_];exact bo.size
  clear nb
  have ag:=h.trans az
  exact aC G az ⟨_,rfl,au,ao⟩
 ·exact fun _ _=>a8 (pf g1 1 G (aC G aB G))
 ·exact fun _ bz=>dk G G (a8 (aK G G (aQ fT (aj.ext (e8.t bz)) G) (aC G aB G)))
 ·intro _ cf
  have h:=ae.trans cf
  refine aT G G fun _ _ cm _ cj=>?_
  obtain⟨_,rfl,ai,J⟩:=cm
  have J:=J.ext cj
  refine dk G G (a8 (GU G G G Tryz.underlying39 lH G (by decide) (a7 ae.size ai) h.size J (ba.ext h).rv (uH xs) (by omega) (by decide) fun _ _ _ bj ar=>?_))
  have ag:=h.trans ar
  exact aC G ar ⟨_,_,rfl,bj⟩
 ·intro _ _
  refine dk G G (aT G G fun _ _ cd _ cz=>?_)
  obtain⟨bi,aq,rfl,aa⟩:=cd
  have aa:=aa.ext cz
  refine a8 (pu (v:= O sa bi na aq) G ?_)
  exact aC G aB ⟨_,_,rfl,(show Zo _ _ sa _ _ _ x from⟨xs,aa,ba.wf,co⟩)⟩
 ·intro _ bg
  have h:=ae.trans bg
  refine dk G G (dk G G (aT G G fun _ _ cx _ ce=>?_))
  obtain⟨_,rfl,_,U⟩:=cx
  have U:=U.ext ce
  refine dk G G (dk G G (aT G G fun _ _ bc _ aw=>?_))
  obtain⟨_,_,rfl,ac⟩:=bc
  have ac:=ac.ext aw
  refine aT G G fun _ _ bh _ av=>?_
  obtain⟨H,I,rfl,o⟩:=bh
  have o:=o.ext av
  refine a8 ?_
  have ab:=(cu.ext bg)
  refine so aG ab (a4 sa H na I) h ak G G G G fun _ ah bu ag=>(aS (dA (aM (bG (bF [O sa H na I] G ⟨⟨_,rfl,bY aG ah (a4 sa H na I) G (bq G) rfl⟩,Ht⟩ ?_)))))
  exact⟨_,rfl,⟨_,_,rfl,(o.updT ab bu)⟩,ag⟩
theorem MX (hb:b≤w.heap.size)(hx:Zi w sa Aa na ca x)(la:na≤1048576):aR aJ 50 #[O sa Aa na ca] w (Gv w (ZOR b sa na x)):=(MW hx la).mono (Gv.imp (ZOR.imp hb))
theorem MV (hb:b≤w.heap.size)(hlb:lb≤w.heap.size)(hw0:Ext w0 w)(hxa:ZF w Aa na capa 1048576 zs)(hna:na≤1048576):aR aJ 29 #[By Aa na capa] w (Gv w (LE (some w0) 1048576 b lb na zs)):=by
 obtain⟨msa,ae,av⟩:=hxa
 refine bQ Tryz.func29 G (n:=23) G (bq G) (args:= [By Aa na capa]) (bH [(0,By Aa na capa)] ⟨rfl,Ht⟩ (sr (mv 1 G (aE (sr (mv 1 G (pu (v:= AI na) G (sL (k:=na) (some w0) 1048576 w.heap.size G G G fun I v2 ar iS e5=>?_))))))))
 have ac:I≤v2.heap.size:=by have:=(iS.block _ G).2;exact Nat.le_of_lt this
 have ag:w.heap.size≤I:=by rw [←ar];exact (Ext.refl w).size
 clear ar
 have h:=(Ext.refl w).trans e5
 have cj:=iS.block
 refine mv 1 G (aE (aH (sr (mv 1 G (aE (bB ?_))))))
 have ai:=iS
 rw [AW zs na] at ai
 refine d6 (T:=a0×Nat) (fun⟨wr,i⟩=> [(0,By Aa na capa),(2,By none 0 0),(3,By (some ⟨I,0,none⟩) na na),(4,AI i),(5,By Aa na capa),(6,AI na),(7,By (some ⟨I,0,none⟩) na na)]) (fun⟨wr,i⟩=>wr) (fun⟨wr,i⟩=>(Ext w wr)∧(i≤na)∧(I≤wr.heap.size)∧(Lz (some w0) 1048576 w.heap.size wr I (some ⟨I,0,none⟩) na na (jY zs na i))) (fun⟨wr,i⟩=>na-i)
  (⟨v2,0⟩:a0×Nat) ⟨h,(by omega),ac,ai⟩ G ⟨rfl,rfl,rfl,rfl,rfl,rfl,rfl,Ht⟩ ?_
 rintro⟨wr,i⟩ ⟨h,_,l_someg10noneb,l_someg10none⟩
 refine d4 [(0,By Aa na capa),(2,By none 0 0),(3,By (some ⟨I,0,none⟩) na na),(4,AI i),(5,By Aa na capa),(6,AI na),(7,By (some ⟨I,0,none⟩) na na)] wr G ⟨rfl,rfl,rfl,rfl,rfl,rfl,rfl,Ht⟩ ?_
 have az:=l_someg10none.block
 refine aH (aH ?_)
 by_cases bz:i<na
 ·refine aL (mv 2 G (pu (v:= AI na) G (aN G G G true (dB (a:=i) (b:=na) G G) (aE (bJ G (bA (aM (aH (bB (aL (mv 4 G ?_)))))))))))
  obtain⟨bu,aw,bv,ce,bj,au,cd⟩:=ae.at (i:=i) (by omega)
  refine aX G G G bM aG.size i G bu bj (aK G G (au _ h _ _ aG) (cl (vs:= [.agg #[.bool aw,By bv (msa.getD i 0) ce]]) h (MX h.size (cd.ext h) (a7 (av i) (by decide))) G (by kernel_rfl) fun _ _ bw aa ak=>?_))
  obtain⟨bh,ao,rfl,bi⟩:=bw
  obtain⟨aj,_,_,_,_,o,_,ab,aq⟩:=((l_someg10none.ext aa)).at (i:=i) (by omega)
  have cf:ln ((jY zs na i).getD i 0)≤1048576:=a7 (aq.zi (hw0.trans ak)).ln ab
  refine aX G G G bM aG.size i G aj o ?_
  have U:=(l_someg10none.ext aa)
  obtain⟨_,_⟩:=U.own
  refine kL (e:=⟨aw,bh,(msa.getD i 0),ao⟩) (z:=zs.getD i 0) G G G o U (bK ⟨_,rfl,bK bi⟩) (a7 (av i) (by decide)) fun bg ah J=>?_
  have bo:=J.ext ak (fun p hp=>by have:=az p hp;omega)
  have H:I≤bg.heap.size:=a7 (a7 l_someg10noneb aa.size) J.size
  refine aS (cC (aM (aL (mv 1 G (bC G G G ((i+1:Nat):Int) (bW (a:=i) (b:=1) G G) (mv 1 G (aS ?_)))))))
  have ba:=ah
  rw [AX ae.len bz] at ba
  refine cB (⟨bg,i+1⟩:a0×Nat) ⟨bo,(by omega),H,ba⟩ (show na-(i+1)<na-i by omega) G ⟨rfl,rfl,rfl,rfl,rfl,rfl,rfl,Ht⟩
 ·refine aL (mv 2 G (pu (v:= AI na) G (aN G G G false (dK (a:=i) (b:=na) G G) (aE (aY G (cM (cK (cT (cL (aM (sr (mv 2 G (aS ?_)))))))))))))
  refine aM (bG (bF [By (some ⟨I,0,none⟩) na na] G ⟨rfl,Ht⟩ ?_))
  have bc:=(l_someg10none).mono (aI _) hb (a7 hlb ag)
  rw [show i=na by omega,AY ae.len] at bc
  exact⟨_,rfl,⟨_,_,rfl,bc⟩,h⟩
theorem qO (hb:b≤w.heap.size)(hlb:lb≤w.heap.size)(hw0:Ext w0 w)(hxa:ZF w Aa na capa 1048576 zs)(hna:na≤1048576:=by omega):aR aJ 7 #[.agg #[AI R,AI C,By Aa na capa]] w (Gv w (MQ R C (LE (some w0) 1048576 b lb na zs))):=by
 obtain⟨msa,cd,cm⟩:=hxa
 refine bQ Tryz.func7 G (n:=11) G (bq G) (args:= [.agg #[AI R,AI C,By Aa na capa]]) (bH [(0,.agg #[AI R,AI C,By Aa na capa])] ⟨rfl,Ht⟩ (sr (bx [AI R,AI C,By Aa na capa] aB G G G fun g1 _ ab _ _ ce=>(dG [I0,I0,S0] ce ab.lt (fun _=>by kernel_rfl) G fun g6 v7 bg aq _ e8 ai=>(aE (aH ?_))))))
 obtain⟨ae,aj,_,ao,_,_⟩:∃lb,lb≤v7.heap.size∧v7.heap.size≤lb∧w.heap.size≤lb∧g1<lb∧g6<lb:=⟨v7.heap.size,aI _,aI _,ai.size,(ab.ext e8).lt,bg.lt⟩
 refine dP cF 8 [] [Is (a9 g1 0),Is (AI R),Is (a9 g1 1),Is (AI C),Is (a9 g1 2),Is (By Aa na capa),LE (some w0) 1048576 w.heap.size ae na zs,MQ R C (LE (some w0) 1048576 w.heap.size ae na zs)] [[],[0],[],[2],[],[4],[5],[1,3,6]] [[],[0],[],[2],[],[4],[4,5],[0,1,2,3,4,5,6],[0,1,2,3,4,5,6,7]] rfl
  (aD G G (aA G G ?_) (aD G G (aA G G ?_) (aD G G (aA G G ?_) (aD G G (aA G G ?_) (aD G G (aA G G ?_) (aD G G (aA G G ?_) (aD G G (aA G G ?_) (aD G G (aA G G ?_) dF)))))))) ?_
 ·exact fun _ _=>a8 (pf g1 0 G (aC G aB G))
 ·exact fun _ cu=>dk G G (a8 (aK G G (aQ bV (ab.ext (e8.t cu)) G) (aC G aB G)))
 ·exact fun _ _=>a8 (pf g1 1 G (aC G aB G))
 ·exact fun _ cg=>dk G G (a8 (aK G G (aQ bV (ab.ext (e8.t cg)) G) (aC G aB G)))
 ·exact fun _ _=>a8 (pf g1 2 G (aC G aB G))
 ·exact fun _ cj=>dk G G (a8 (aK G G (aQ cD (ab.ext (e8.t cj)) G) (aC G aB G)))
 ·intro _ aw
  have U:=ai.trans aw
  refine dk G G (a8 (cl (vs:= [By Aa na capa]) U (MV (w0:=w0) U.size (a7 aj aw.size) (hw0.trans U) ((show ZF w _ _ _ _ _ from⟨msa,cd,cm⟩).ext U) (by omega)) G (by kernel_rfl) fun _ _ cn bz ar=>?_))
  obtain⟨_,_,rfl,ag⟩:=cn
  have cx:=ag.block
  exact aC G bz ⟨_,_,rfl,ag⟩
 ·intro _ _
  refine dk G G (dk G G (aT G G fun _ _ co _ bv=>?_))
  obtain⟨au,bj,rfl,J⟩:=co
  have cf:=J.block
  have J:=J.ext bv
  refine a8 (pu (v:= .agg #[AI R,AI C,By au na bj]) G ?_)
  exact aC G aB ⟨_,rfl,⟨_,_,rfl,J⟩⟩
 ·intro _ bc
  have U:=ai.trans bc
  refine dk G G (dk G G (dk G G (dk G G (dk G G (dk G G (aT G G fun _ _ az _ ba=>?_))))))
  obtain⟨_,_,rfl,I⟩:=az
  have bo:=I.block
  have I:=I.ext ba
  refine aT G G fun _ _ av _ bi=>?_
  obtain⟨_,rfl,⟨o,H,rfl,h⟩⟩:=av
  have ac:=h.block
  have h:=h.ext bi
  refine a8 ?_
  have aa:=(bg.ext bc)
  refine so bS aa [AI R,AI C,By o na H] U aq G G G G fun _ ah bh ar=>(aS (dA (aM (bG (bF [.agg #[AI R,AI C,By o na H]] G ⟨⟨_,rfl,bY bS ah [AI R,AI C,By o na H] G (bq G) rfl⟩,Ht⟩ ?_)))))
  exact⟨_,rfl,⟨_,rfl,⟨_,_,rfl,((h.updT aa bh (show∀p:a6,o=some p→p.block≠g6 from fun p hp=>by have:=ac p hp;omega))).mono (aI _) hb (a7 hlb ao)⟩⟩,ar⟩
theorem nQ (hb:b≤w.heap.size){x:Nat}(hx:x≤18446744073709551615:=by decide):aR aJ 15 #[AT x] w (Gv w (ZR b (((x:Nat):Int)))):=by
 refine bQ Tryz.func15 G (n:=9) G (bq G) (args:= [AT x]) (bH [(0,AT x)] ⟨rfl,Ht⟩ (sr (al [F0,S0] aB (fun _=>by kernel_rfl) G fun _ _ ac ab _ I=>(aE (aH (aH ?_))))))
 by_cases U:x=0
 ·refine aL (mv 1 G (aN G G G true (kD (a:=x) (b:=0) G G) (aE (bJ G (sr (pu (v:= .agg #[F0,S0]) G (so aG ac [F0,S0] I ab G G G G fun v6 ak _ J=>(aE (bG (dZ (bF [.agg #[F0,S0]] G ⟨⟨_,rfl,bY aG ak [F0,S0] G (bq G) rfl⟩,Ht⟩ ?_)))))))))))
  exact⟨_,rfl,⟨_,_,_,_,rfl,(((Zr.zero (w:=v6) (base:=w.heap.size))).cast (by rw [U];rfl)).mono hb⟩,J⟩
 ·refine aL (mv 1 G (aN G G G false (kS (a:=x) (b:=0) G G) (aE (aY G (bA (aM (sr (mv 1 G (jX G G (k:=1) (e:=45) [AT x] (fun _=>by kernel_rfl) fun h _ H=>?_)))))))))
  have ai:=O1.mk_ (x:=x) (b:=w.heap.size) H I.size
  have ae:=H.ext
  have J:=I.trans ae
  have ag:=JU ai hx U
  have aj:=LO hx U
  refine pu (v:= .agg #[F0,By (some ⟨h,0,none⟩) 1 1]) G ?_
  have o:=(ac.ext ae)
  refine so aG o [F0,By (some ⟨h,0,none⟩) 1 1] J ab G G G G fun _ aa ao ah=>(aE (bG (bF [.agg #[F0,By (some ⟨h,0,none⟩) 1 1]] G ⟨⟨_,rfl,bY aG aa [F0,By (some ⟨h,0,none⟩) 1 1] G (bq G) rfl⟩,Ht⟩ ?_)))
  exact⟨_,rfl,⟨_,_,_,_,rfl,((R1 aj ag).updT o ao).mono hb⟩,ah⟩
theorem MN (hb:b≤w.heap.size)(hlb:lb≤w.heap.size):aR aJ 23 #[] w (Gv w (MQ 2 2 (LE none 1 b lb 4 ([2,4,6,8])))):=by
 refine bQ Tryz.func23 G (n:=7) G (bq G) (args:= []) (bH [] Ht (sr (al [I0,I0,S0] aB (fun _=>by kernel_rfl) G fun g1 _ aq ba _ ao=>(aE (sr (cl (vs:= [AT 2]) ao ((nQ (x:=2) ao.size)) G (by kernel_rfl) fun _ _ r8 e7 ag=>?_))))))
 obtain⟨s9,A9,n9,c9,rfl,z9⟩:=r8
 refine cl (vs:= [AT 4]) ag ((nQ (x:=4) ag.size)) G (by kernel_rfl) fun _ _ bz aa ae=>?_
 obtain⟨bw,bc,cd,bj,rfl,ah⟩:=bz
 refine cl (vs:= [AT 6]) ae ((nQ (x:=6) ae.size)) G (by kernel_rfl) fun _ _ cg U ac=>?_
 obtain⟨bg,ce,av,aw,rfl,ab⟩:=cg
 refine cl (vs:= [AT 8]) ac ((nQ (x:=8) ac.size)) G (by kernel_rfl) fun _ _ bu I ar=>?_
 obtain⟨bv,bi,cf,bo,rfl,ai⟩:=bu
 refine jX G G (k:=4) (e:=41) [.bool s9,By A9 n9 c9,.bool bw,By bc cd bj,.bool bg,By ce av aw,.bool bv,By bi cf bo] (fun _=>by kernel_rfl) fun H _ nb=>?_
 have aj:=nb.bk
 have au:w.heap.size≤H:=by rw [←nb.at_];exact ar.size
 have da:g1<H:=by rw [←nb.at_];exact (aq.ext (e7.t (aa.t (U.t I)))).lt
 have o:=nb.ext
 clear nb
 have az:=ar.trans o
 refine pu (v:= .agg #[AI 2,AI 2,By (some ⟨H,0,none⟩) 4 4]) G ?_
 have h:=(aq.ext (e7.t (aa.t (U.t (I.t o)))))
 refine so bS h [AI 2,AI 2,By (some ⟨H,0,none⟩) 4 4] az ba G G G G fun _ ak J bh=>(aE (bG (bF [.agg #[AI 2,AI 2,By (some ⟨H,0,none⟩) 4 4]] G ⟨⟨_,rfl,bY bS ak [AI 2,AI 2,By (some ⟨H,0,none⟩) 4 4] G (bq G) rfl⟩,Ht⟩ ?_)))
 exact⟨_,rfl,⟨_,rfl,⟨_,_,rfl,iS (a7 hlb au) (aj.vN J) (((z9.ext (aa.t (U.t (I.t o)))).updT h J).mono hb) (((ah.ext (U.t (I.t o))).updT h J).mono hb) (((ab.ext (I.t o)).updT h J).mono hb) (((ai.ext o).updT h J).mono hb) (z9.le (a7 (show ln ((2:Nat):Int)≤1 from oT) (by decide))) (ah.le (a7 (show ln ((4:Nat):Int)≤1 from oT) (by decide))) (ab.le (a7 (show ln ((6:Nat):Int)≤1 from oT) (by decide))) (ai.le (a7 (show ln ((8:Nat):Int)≤1 from oT) (by decide)))⟩⟩,bh⟩
theorem DQ (ha:Zr w b_a sa Aa na ca x):aR aJ 39 #[O sa Aa na ca] w (Gv w (Is (BY))):=by
 refine bQ Tryz.func39 G (n:=19) G (bq G) (args:= [O sa Aa na ca]) (bH [(0,O sa Aa na ca)] ⟨rfl,Ht⟩ (sr (bx (a4 sa Aa na ca) aB G G G fun J _ h _ e3 H=>(mv 1 G (aE (aH ?_))))))
 have hn:=ha.len
 have ah:=ha.rd.rv.le
 have ac:=ha.rd.rv.max
 rw [eY] at ac
 by_cases o:x=0
 ·have ab:na=0:=by rw [hn,o];rfl
  obtain rfl:sa=false:=by rw [ha.sgn,o];rfl
  refine aL (pf J 1 G (aK G G (aQ fT h G) (pu (v:= AI na) G (mv 1 G (aE (aH (sr (mv 1 G (aN G G G true (kD (a:=na) (b:=0) G G) (aE (bJ G (sr (pf J 0 G ?_)))))))))))))
  refine aK G G (aQ fU h G) (pu (v:= BY) G (mv 1 G (aE (bG (dZ (bF [BY] G ⟨rfl,Ht⟩ ?_))))))
  exact⟨_,rfl,rfl,H⟩
 ·have ab:na≠0:=fun e=>o (xI (by rw [←hn,e]))
  have I:=GZ o
  rw [←hn] at I
  refine aL (pf J 1 G (aK G G (aQ fT h G) (pu (v:= AI na) G (mv 1 G (aE (aH (sr (mv 1 G (aN G G G false (kS (a:=na) (b:=0) G G) (aE (aY G (bA (aM ?_)))))))))))))
  refine sr (pf J 1 G (aK G G (aQ fT h G) (mv 1 G (bC G G G ((na-1:Nat):Int) (iY (a:=na) (b:=1) G G) ?_))))
  obtain⟨p6,U,aa,_⟩:=((ha.ext e3)).rd.at (i:=na-1) (by omega)
  refine aX G G G pS pU (na-1) G p6 U (aK G G (cP rI aa) (aN G G G true (nU (a:=(wd (Int.natAbs x)).getD (na-1) 0) (b:=0) G G) (mv 1 G (aE (bG (bF [BY] G ⟨rfl,Ht⟩ ?_))))))
  exact⟨_,rfl,rfl,H⟩
theorem qN (ha:Zr w b_a sa Aa na ca x){ny cy:Nat}(hy:Zr w b_y sy Ay ny cy x):aR aJ 18 #[O sa Aa na ca,O sy Ay ny cy] w (Gv w (Is (BY))):=by
 obtain rfl:sa=sy:=by rw [hy.sgn,ha.sgn]
 have bi:=ha.len
 have bj:=hy.len
 have bu:=ha.rd.rv.le
 have bc:=ha.rd.rv.max
 have ba:=hy.rd.rv.max
 rw [eY] at bc ba
 refine bQ Tryz.func18 G (n:=48) G (bq G) (args:= [O sa Aa na ca,O sa Ay ny cy]) (bH [(0,O sa Aa na ca),(1,O sa Ay ny cy)] ⟨rfl,rfl,Ht⟩ (sr (bx (a4 sa Aa na ca) aB G G G fun h _ J _ e3 ab=>(mN (a4 sa Ay ny cy) ab J.lt G G G fun H _ aa _ _ e8 ag=>(mv 1 G (aE (aH (sr (pf h 0 G (aK G G (aQ fU (J.ext e8) G) (pf H 0 G (aK G G (aQ fU aa G) (GO G G (v:= .bool (!(sa==sa))) (v':= Hs) (by decide) (by kernel_rfl) (by simp) ?_)))))))))))))
 refine mv 1 G (pf h 1 G (aK G G (aQ fT (J.ext e8) G) (pu (v:= AI na) G (pf H 1 G (aK G G (aQ fT aa G) (pu (v:= AI ny) G (aN G G G false (kC (a:=na) (b:=ny) G G) (pu (v:= Hs) G (mv 1 G (lo aG (J.ext e8) (a4 sa Aa na ca) G G G (cl (vs:= [O sa Aa na ca]) ag (DQ (ha.ext (e3.t e8))) G (by kernel_rfl) fun _ _ bg I aw=>?_)))))))))))
 obtain rfl:=bg
 refine pu (v:= Hs) G (pu (v:= Hs) G (mv 1 G (lo aG (aa.ext I) (a4 sa Ay ny cy) G G G (cl (vs:= [O sa Ay ny cy]) aw (DQ (hy.ext (e3.t (e8.t I)))) G (by kernel_rfl) fun _ az au U av=>?_))))
 obtain rfl:=au
 refine pu (v:= Hs) G (pu (v:= Hs) G (aE (aY G (bA (aM (aH (sr (mv 1 G (aE (bB ?_))))))))))
 refine d6 (T:=a0×Nat) (fun⟨wr,i⟩=> [(0,O sa Aa na ca),(1,O sa Ay ny cy),(2,a9 h 0),(3,a9 H 0),(4,Hs),(5,AI i),(6,a9 h 0),(7,.bool sa),(8,a9 H 0),(9,.bool sa),(10,Hs),(11,Hs),(12,a9 h 1),(13,By Aa na ca),(14,AI na),(15,a9 H 1),(16,By Ay ny cy),(17,AI ny),(18,Hs),(19,Hs),(20,Hs),(21,O sa Aa na ca),(22,BY),(23,Hs),(24,Hs),(25,Hs),(26,O sa Ay ny cy),(27,BY),(28,Hs),(29,Hs)]) (fun⟨wr,i⟩=>wr) (fun⟨wr,i⟩=>(Ext w wr)∧(i≤na)∧(Bk wr h 41 (a4 sa Aa na ca))∧(Zr wr b_a sa Aa na ca (x))∧(Bk wr H 41 (a4 sa Ay ny cy))∧(Zr wr b_y sa Ay ny cy (x))) (fun⟨wr,i⟩=>na-i)
  (⟨az,0⟩:a0×Nat) ⟨av,(by omega),(J.ext (e8.t (I.t U))),(ha.ext (e3.t (e8.t (I.t U)))),(aa.ext (I.t U)),(hy.ext (e3.t (e8.t (I.t U))))⟩ G ⟨rfl,rfl,rfl,rfl,rfl,rfl,rfl,rfl,rfl,rfl,rfl,rfl,rfl,rfl,rfl,rfl,rfl,rfl,rfl,rfl,rfl,rfl,rfl,rfl,rfl,rfl,rfl,rfl,rfl,rfl,Ht⟩ ?_
 rintro⟨wr,i⟩ ⟨ab,_,b_g1,z_g1,b_g6,z_g6⟩
 refine d4 [(0,O sa Aa na ca),(1,O sa Ay ny cy),(2,a9 h 0),(3,a9 H 0),(4,Hs),(5,AI i),(6,a9 h 0),(7,.bool sa),(8,a9 H 0),(9,.bool sa),(10,Hs),(11,Hs),(12,a9 h 1),(13,By Aa na ca),(14,AI na),(15,a9 H 1),(16,By Ay ny cy),(17,AI ny),(18,Hs),(19,Hs),(20,Hs),(21,O sa Aa na ca),(22,BY),(23,Hs),(24,Hs),(25,Hs),(26,O sa Ay ny cy),(27,BY),(28,Hs),(29,Hs)] wr G ⟨rfl,rfl,rfl,rfl,rfl,rfl,rfl,rfl,rfl,rfl,rfl,rfl,rfl,rfl,rfl,rfl,rfl,rfl,rfl,rfl,rfl,rfl,rfl,rfl,rfl,rfl,rfl,rfl,rfl,rfl,Ht⟩ (aH (aH ?_))
 by_cases bo:i<na
 ·refine aL (mv 1 G (pf h 1 G (aK G G (aQ fT b_g1 G) (pu (v:= AI na) G (aN G G G true (dB (a:=i) (b:=na) G G) (aE (bJ G (bA (aM (aH (bB (aH (bH [(0,O sa Aa na ca),(1,O sa Ay ny cy),(2,a9 h 0),(3,a9 H 0),(4,Hs),(5,AI i),(6,a9 h 0),(7,.bool sa),(8,a9 H 0),(9,.bool sa),(10,Hs),(11,Hs),(12,a9 h 1),(13,By Aa na ca),(14,AI na),(15,a9 H 1),(16,By Ay ny cy),(17,AI ny),(18,Hs),(19,Hs),(20,Hs),(21,O sa Aa na ca),(22,BY),(23,Hs),(24,Hs),(25,Hs),(26,O sa Ay ny cy),(27,BY),(28,Hs),(29,Hs),(30,AI i),(31,a9 h 1),(32,By Aa na ca),(33,AI na),(34,BY)] ⟨rfl,rfl,rfl,rfl,rfl,rfl,rfl,rfl,rfl,rfl,rfl,rfl,rfl,rfl,rfl,rfl,rfl,rfl,rfl,rfl,rfl,rfl,rfl,rfl,rfl,rfl,rfl,rfl,rfl,rfl,rfl,rfl,rfl,rfl,rfl,Ht⟩ ?_)))))))))))))
  obtain⟨ai,hv,o⟩:∃v,v=wr.drew∧Ext wr v:=⟨_,rfl,(Ext.refl _).drew⟩
  have ag:=ab.trans o
  obtain⟨ae,aq,aj,_⟩:=((z_g1.ext o)).rd.at (i:=i) (by omega)
  obtain⟨ah,ak,ao,_⟩:=((z_g6.ext o)).rd.at (i:=i) (by omega)
  refine lK cF (w:=ai) [a9 h 1,By Aa na ca,AI i,.pointer (some ae),AT (((wd (Int.natAbs x)).getD i 0:Nat):Int),a9 H 1,By Ay ny cy,AI i,.pointer (some ah),AT (((wd (Int.natAbs x)).getD i 0:Nat):Int),F0] [ai] [] [[],[0],[],[1,2],[3],[],[5],[],[6,7],[8],[4,9]] [[],[0],[],[0,1,2],[0,1,2,3],[],[5],[],[5,6,7],[5,6,7,8],[0,1,2,3,4,5,6,7,8,9]] [(0,0),(1,0),(2,0),(3,0),(4,0),(5,0),(6,0),(7,0),(8,0),(9,0),(10,0)] G hv ?_ ?_
  ·refine aW _ G G G G G (eH G) (aW _ G G G G G (cN G (aQ fT (b_g1.ext o) G)) (aW _ G G G G G (dJ G) (aW _ G G G G G (fH G G pS pU i G ae aq) (aW _ G G G G G (cN G (cP rI aj)) (aW _ G G G G G (eH G) (aW _ G G G G G (cN G (aQ fT (b_g6.ext o) G)) (aW _ G G G G G (dJ G) (aW _ G G G G G (fH G G pS pU i G ah ak) (aW _ G G G G G (cN G (cP rI ao)) (aW _ G G G G G (JP G G false (kC (a:=(wd (Int.natAbs x)).getD i 0) (b:=(wd (Int.natAbs x)).getD i 0) G G)) ?_))))))))))
   exact lJ
  clear hv
  refine kA [(0,O sa Aa na ca),(1,O sa Ay ny cy),(2,a9 h 0),(3,a9 H 0),(4,Hs),(5,AI i),(6,a9 h 0),(7,.bool sa),(8,a9 H 0),(9,.bool sa),(10,Hs),(11,Hs),(12,a9 h 1),(13,By Aa na ca),(14,AI na),(15,a9 H 1),(16,By Ay ny cy),(17,AI ny),(18,Hs),(19,Hs),(20,Hs),(21,O sa Aa na ca),(22,BY),(23,Hs),(24,Hs),(25,Hs),(26,O sa Ay ny cy),(27,BY),(28,Hs),(29,Hs),(30,AI i),(31,a9 h 1),(32,By Aa na ca),(33,AI na),(34,BY),(37,a9 h 1),(38,By Aa na ca),(39,AI i),(40,.pointer (some ae)),(41,AT (((wd (Int.natAbs x)).getD i 0:Nat):Int)),(42,a9 H 1),(43,By Ay ny cy),(44,AI i),(45,.pointer (some ah)),(46,AT (((wd (Int.natAbs x)).getD i 0:Nat):Int)),(47,Hs)] ⟨rfl,rfl,rfl,rfl,rfl,rfl,rfl,rfl,rfl,rfl,rfl,rfl,rfl,rfl,rfl,rfl,rfl,rfl,rfl,rfl,rfl,rfl,rfl,rfl,rfl,rfl,rfl,rfl,rfl,rfl,rfl,rfl,rfl,rfl,rfl,rfl,rfl,rfl,rfl,rfl,rfl,rfl,rfl,rfl,rfl,rfl,Ht⟩ (aM (aY G (bA (cC (aM (aL (mv 1 G (bC G G G ((i+1:Nat):Int) (bW (a:=i) (b:=1) G G) (mv 1 G (aS (cB (⟨ai,i+1⟩:a0×Nat) ⟨ag,(by omega),(b_g1.ext o),(z_g1.ext o),(b_g6.ext o),(z_g6.ext o)⟩ (show na-(i+1)<na-i by omega) G ⟨rfl,rfl,rfl,rfl,rfl,rfl,rfl,rfl,rfl,rfl,rfl,rfl,rfl,rfl,rfl,rfl,rfl,rfl,rfl,rfl,rfl,rfl,rfl,rfl,rfl,rfl,rfl,rfl,rfl,rfl,Ht⟩)))))))))))
 ·refine aL (mv 1 G (pf h 1 G (aK G G (aQ fT b_g1 G) (pu (v:= AI na) G (aN G G G false (dK (a:=i) (b:=na) G G) (aE (aY G (cM (cK (cT (cL (aM (aH ?_)))))))))))))
  refine aL (mv 1 G (aE (bG (bF [BY] G ⟨rfl,Ht⟩ ?_))))
  exact⟨_,rfl,rfl,ab⟩
theorem DS (ha:Zr w b_a sa Aa na ca x)(hx:x=0):aR aJ 16 #[O sa Aa na ca] w (Gv w (Is (BY))):=by
 refine bQ Tryz.func16 G (n:=12) G (bq G) (args:= [O sa Aa na ca]) (bH [(0,O sa Aa na ca)] ⟨rfl,Ht⟩ (sr (bx (a4 sa Aa na ca) aB G G G fun H _ h _ _ o=>(mv 1 G (aE (aH ?_))))))
 have hn:=ha.len
 have I:na=0:=by rw [hn,hx];rfl
 obtain rfl:sa=false:=by rw [ha.sgn,hx];rfl
 refine aL (pf H 1 G (aK G G (aQ fT h G) (pu (v:= AI na) G (aN G G G true (kD (a:=na) (b:=0) G G) (mv 1 G (pf H 0 G (aK G G (aQ fU h G) (pu (v:= BY) G (pu (v:= BY) G (mv 1 G (aE (bG (bF [BY] G ⟨rfl,Ht⟩ ?_)))))))))))))
 exact⟨_,rfl,rfl,o⟩
theorem MO (hs:j3 R C na):aR aJ 8 #[.agg #[AI R,AI C,By Aa na capa]] w (Gv w (Is (BY))):=by
 refine bQ Tryz.func8 G (n:=32) G (bq G) (args:= [.agg #[AI R,AI C,By Aa na capa]]) (bH [(0,.agg #[AI R,AI C,By Aa na capa])] ⟨rfl,Ht⟩ (sr (bx [AI R,AI C,By Aa na capa] aB G G G fun o _ h _ _ H=>(mv 1 G (aE (aH ?_))))))
 have I:=hs.1
 have J:=hs.2.1
 refine aL (pf o 0 G (aK G G (aQ bV h G) (aN G G G true (mK hs.1.1) (mv 1 G (pf o 0 G (aK G G (aQ bV h G) (aN G G G true (lL hs.1.2) (pu (v:= BY) G (mv 1 G (pf o 1 G (aK G G (aQ bV h G) (aN G G G true (mK hs.2.1.1) (pu (v:= BY) G ?_)))))))))))))
 refine mv 1 G (pf o 1 G (aK G G (aQ bV h G) (aN G G G true (lL hs.2.1.2) (pu (v:= BY) G (mv 1 G (pf o 2 G (aK G G (aQ cD h G) (pu (v:= AI na) G (pf o 0 G (aK G G (aQ bV h G) (pf o 1 G (aK G G (aQ bV h G) (bC G G G (R*C) (FL hs.1 hs.2.1) ?_)))))))))))))
 refine aN G G G true (PY hs.2.2) (pu (v:= BY) G (mv 1 G (aE (bG (bF [BY] G ⟨rfl,Ht⟩ ?_)))))
 exact⟨_,rfl,rfl,H⟩
theorem MP (hs:¬j3 R C na):aR aJ 8 #[.agg #[AI R,AI C,By Aa na capa]] w (Gv w (Is (Hs))):=by
 refine bQ Tryz.func8 G (n:=32) G (bq G) (args:= [.agg #[AI R,AI C,By Aa na capa]]) (bH [(0,.agg #[AI R,AI C,By Aa na capa])] ⟨rfl,Ht⟩ (sr (bx [AI R,AI C,By Aa na capa] aB G G G fun o _ h _ _ H=>(mv 1 G (aE (aH ?_))))))
 by_cases I:R≥0
 ·by_cases J:R≤64
  ·by_cases U:C≥0
   ·by_cases h3:C≤64
    ·have ab:((na:Nat):Int)≠R*C:=fun e=>hs ⟨⟨I,J⟩,⟨U,h3⟩,e⟩
     refine aL (pf o 0 G (aK G G (aQ bV h G) (aN G G G true (mK I) (mv 1 G (pf o 0 G (aK G G (aQ bV h G) (aN G G G true (lL J) (pu (v:= BY) G (mv 1 G (pf o 1 G (aK G G (aQ bV h G) (aN G G G true (mK U) (pu (v:= BY) G ?_)))))))))))))
     refine mv 1 G (pf o 1 G (aK G G (aQ bV h G) (aN G G G true (lL h3) (pu (v:= BY) G (mv 1 G (pf o 2 G (aK G G (aQ cD h G) (pu (v:= AI na) G (pf o 0 G (aK G G (aQ bV h G) (pf o 1 G (aK G G (aQ bV h G) (bC G G G (R*C) (FL ⟨I,J⟩ ⟨U,h3⟩) ?_)))))))))))))
     refine aN G G G false (PZ ab) (pu (v:= Hs) G (mv 1 G (aE (bG (bF [F0] G ⟨rfl,Ht⟩ ?_)))))
     exact⟨_,rfl,rfl,H⟩
    ·refine aL (pf o 0 G (aK G G (aQ bV h G) (aN G G G true (mK I) (mv 1 G (pf o 0 G (aK G G (aQ bV h G) (aN G G G true (lL J) (pu (v:= BY) G (mv 1 G (pf o 1 G (aK G G (aQ bV h G) (aN G G G true (mK U) (pu (v:= BY) G ?_)))))))))))))
     refine mv 1 G (pf o 1 G (aK G G (aQ bV h G) (aN G G G false (r7 h3) (pu (v:= Hs) G (mv 10 G (pu (v:= Hs) G (mv 1 G (aE (bG (bF [F0] G ⟨rfl,Ht⟩ ?_))))))))))
     exact⟨_,rfl,rfl,H⟩
   ·refine aL (pf o 0 G (aK G G (aQ bV h G) (aN G G G true (mK I) (mv 1 G (pf o 0 G (aK G G (aQ bV h G) (aN G G G true (lL J) (pu (v:= BY) G (mv 1 G (pf o 1 G (aK G G (aQ bV h G) (aN G G G false (yM U) (pu (v:= Hs) G ?_)))))))))))))
    refine mv 4 G (pu (v:= Hs) G (mv 10 G (pu (v:= Hs) G (mv 1 G (aE (bG (bF [F0] G ⟨rfl,Ht⟩ ?_)))))))
    exact⟨_,rfl,rfl,H⟩
  ·refine aL (pf o 0 G (aK G G (aQ bV h G) (aN G G G true (mK I) (mv 1 G (pf o 0 G (aK G G (aQ bV h G) (aN G G G false (r7 J) (pu (v:= Hs) G (mv 4 G (pu (v:= Hs) G (mv 4 G (pu (v:= Hs) G (mv 1 G ?_)))))))))))))
   refine mv 9 G (pu (v:= Hs) G (mv 1 G (aE (bG (bF [F0] G ⟨rfl,Ht⟩ ?_)))))
   exact⟨_,rfl,rfl,H⟩
 ·refine aL (pf o 0 G (aK G G (aQ bV h G) (aN G G G false (yM I) (mv 4 G (pu (v:= Hs) G (mv 4 G (pu (v:= Hs) G (mv 4 G (pu (v:= Hs) G (mv 10 G (pu (v:= Hs) G (mv 1 G (aS ?_)))))))))))))
  refine aM (bG (bF [F0] G ⟨rfl,Ht⟩ ?_))
  exact⟨_,rfl,rfl,H⟩
theorem cG:∀w,(isAgg 54).run aJ w= .ok false w:=fun _=>by kernel_rfl
theorem rB:∀w,(isAgg 79).run aJ w= .ok false w:=fun _=>by kernel_rfl
theorem d9:Tryz.prog.underlying 54=some (.slice 22):=Tryz.underlying54
structure Bl (lb:Nat)(w w':a0):Prop where
 b:Below lb w w'
 l:lb≤w.heap.size
theorem Bl.size (h:Bl lb w w'):w.heap.size≤w'.heap.size:=h.b.size
theorem Bl.refl (h:lb≤w.heap.size):Bl lb w w:=⟨Below.refl _ _,h⟩
theorem Bl.ext {a:a0}(h:Bl lb a w)(e:Ext w w'):Bl lb a w':=⟨h.b.trans (e.below.mono (a7 h.l h.b.size)),h.l⟩
theorem Bl.upd {a:a0}(h:Bl lb a w)(u:Upd g w w')(hg:lb≤g):Bl lb a w':=⟨h.b.grown u.by_ (a7 h.l h.b.size) (fun k e=>by cases e;exact hg),h.l⟩
theorem Bl.updO {a:a0}(h:Bl lb a w)(u:UpdO A w w')(hg:∀p,A=some p→lb≤p.block):Bl lb a w':=
 ⟨h.b.grown u.by_ (a7 h.l h.b.size) (fun k e=>by cases A with | none=>cases e | some p=>cases e;exact hg p G),h.l⟩
theorem Bl.toExt {a:a0}(h:Bl lb w w')(e:Ext a w)(hl:a.heap.size≤lb):Ext a w':=⟨e.below.trans (h.b.mono hl)⟩
theorem Bk.bl (h:Bk w g t vs)(e:Bl lb w w')(hg:g<lb):Bk w' g t vs:=(e.b.block g hg).trans h
section
variable {P:bP}{w w':a0}{lb:Nat}{t:aO}{A:Option a6}{n cap:Nat}{vs:List aF}
theorem Own.cellAt (h:Own w lb t 1 A n cap vs)(hi:i<n):∃p,A.map (·.add (i*1))=some p∧w.cell? p=some (vs.getD i undef):=by
 obtain⟨a,o,H⟩:=h.rv.get i (by omega)
 exact⟨a.add i,by rw [o,gY];rfl,H⟩
theorem Own.tailAt (h:Own w lb t 1 A n cap vs){lo:Nat}(hi:lo+i<n):∃p,(if cap=lo then A else A.map (·.add (lo*1))).map (·.add (i*1))=some p∧w.cell? p=some (vs.getD (lo+i) undef):=by
 obtain⟨a,o,H⟩:=h.rv.get (lo+i) (by omega)
 have:=h.rv.le
 rw [if_neg (by omega),o]
 exact⟨a.add (lo+i),by simp [pB],H⟩
theorem BV (h:Own w lb t 1 A n cap vs)(hT:∀w,(sizeOf T).run P w= .ok 1 w)(hi:i<n){p:a6}(hp:A.map (·.add (i*1))=some p)(hv:v.cells= #[v])(h1:v.oneCell'=true):∃w',(storeVar T p v).run P w= .ok () w'∧Own w' lb t 1 A n cap (vs.set i v)∧UpdO A w w':=by
 rcases h with⟨rfl,_⟩ | ⟨g,cs,rfl,hg,U,hn,H,I,o⟩
 ·cases hp
 ·have hp':p=⟨g,i,none⟩:=by
   injection hp with hp
   rw [←hp,gY]
   show (⟨g,0,none⟩:a6).add i=_
   rw [iZ,fE]
  subst hp'
  obtain⟨w',hr,J,hu,_⟩:=JD (P:=P) hT hv U (show i<cs.length by omega) h1 _ rfl
  refine⟨w',hr,bK ⟨g,_,rfl,hg,J,hn,H,by rw [List.length_set];exact I,?_⟩,hu.updO⟩
  rw [←o,List.take_set]
end
def dW (ra:Nat→Option a6)(rc:Nat→Nat)(m r:Nat):aF:= By (ra r) m (rc r)
theorem xU {α:Type}{ps:List α}{f:α→aF}{d:α}(hi:i<ps.length:=by omega):(ps.map f).getD i undef=f (ps.getD i d):=by
 simp [bO,pM,d8 hi]
section
variable {w:a0}{lb:Nat}{t:aO}{A:Option a6}{n cap m:Nat}{ra:Nat→Option a6}{rc:Nat→Nat}{ps:List Nat}{ns:List Int}
theorem Own.rowAt (h:Own w lb t 1 A n cap (ps.map (dW ra rc m)))(hi:i<n):∃p,A.map (·.add (i*1))=some p∧w.cell? p=some (By (ra (ps.getD i 0)) m (rc (ps.getD i 0))):=by
 obtain⟨p,H,o⟩:=h.cellAt hi
 have hl:ps.length=n:=by simpa using h.rv.len
 rw [xU (d:=0)] at o
 exact⟨p,H,o⟩
theorem Own.rowTail (h:Own w lb t 1 A n cap (ps.map (dW ra rc m))){lo:Nat}(hi:lo+i<n):∃p,(if cap=lo then A else A.map (·.add (lo*1))).map (·.add (i*1))=some p∧w.cell? p=some (By (ra (ps.getD (lo+i) 0)) m (rc (ps.getD (lo+i) 0))):=by
 obtain⟨p,H,o⟩:=h.tailAt hi
 have hl:ps.length=n:=by simpa using h.rv.len
 rw [xU (d:=0)] at o
 exact⟨p,H,o⟩
theorem Own.numAt (h:Own w lb t 1 A n cap (ns.map gX))(hi:i<n):∃p,A.map (·.add (i*1))=some p∧w.cell? p=some (AI (ns.getD i 0)):=by
 obtain⟨p,H,o⟩:=h.cellAt hi
 have hl:ns.length=n:=by simpa using h.rv.len
 rw [xU (d:=0)] at o
 exact⟨p,H,o⟩
end
section
variable {P:bP}{w:a0}{lb:Nat}{A:Option a6}{n cap m:Nat}{ra:Nat→Option a6}{rc:Nat→Nat}{ps:List Nat}{ns:List Int}{p:a6}
theorem sY (h:Own w lb 22 1 A n cap (ps.map (dW ra rc m)))(hp:A.map (·.add (i*1))=some p)(x:Nat)(hi:i<n:=by omega):∃w',(storeVar 22 p (By (ra x) m (rc x))).run aJ w= .ok () w'∧Own w' lb 22 1 A n cap ((ps.set i x).map (dW ra rc m))∧UpdO A w w':=by
 obtain⟨w',H,o,I⟩:=BV (P:=aJ) h cV hi hp (v:=dW ra rc m x) G rfl
 rw [←List.map_set] at o
 exact⟨w',H,o,I⟩
theorem BW (h:Own w lb 3 1 A n cap (ns.map gX))(hi:i<n)(hp:A.map (·.add (i*1))=some p)(x:Int):∃w',(storeVar 3 p (AI x)).run aJ w= .ok () w'∧Own w' lb 3 1 A n cap ((ns.set i x).map gX)∧UpdO A w w':=by
 obtain⟨w',H,o,I⟩:=BV (P:=aJ) h nE hi hp (v:=gX x) G rfl
 rw [←List.map_set] at o
 exact⟨w',H,o,I⟩
end
def ent (Z:Mx)(r j:Nat)(x:Int):Mx:=fun a b=>if a=r∧b=j then x else Z a b
structure Rcs (K lb n m:Nat)(ra:Nat→Option a6)(rc:Nat→Nat)(w:a0)(Z:Mx):Prop where
 row:∀r,r<n→∃zs,Lz none K 0 w lb (ra r) m (rc r) zs∧∀j,j<m→zs.getD j 0=Z r j
 dis:∀r s,r<n→s<n→r≠s→∀p q,ra r=some p→ra s=some q→p.block≠q.block
section
variable {K lb n m:Nat}{ra:Nat→Option a6}{rc:Nat→Nat}{w w':a0}{Z:Mx}
theorem Rcs.ext (h:Rcs K lb n m ra rc w Z)(x:Ext w w'):Rcs K lb n m ra rc w' Z:=⟨fun r hr=>by obtain⟨zs,o,H⟩:=h.row r hr;exact⟨zs,o.ext x,H⟩,h.dis⟩
theorem Rcs.updT (h:Rcs K lb n m ra rc w Z)(hb:Bk w g T us)(x:Upd g w w')(hne:∀r,r<n→∀p,ra r=some p→p.block≠g)(hT:45≠T:=by decide):Rcs K lb n m ra rc w' Z:=
 ⟨fun r hr=>by obtain⟨zs,o,H⟩:=h.row r hr;exact⟨zs,o.updT hb x (hne r hr) hT,H⟩,h.dis⟩
theorem Lz.updQ {s:Nat}(h:Lz mo K b w lb A n cap zs)(ho:Own w lb' T s B k c us)(x:UpdO B w w')(hne:∀p q,B=some p→A=some q→p.block≠q.block)(hT:45≠T:=by decide):Lz mo K b w' lb A n cap zs:=by
 obtain⟨es,H,J,I,o⟩:=h
 exact⟨es,H.updO x hne,J,I,fun i hi=>⟨(o i hi).1,(o i hi).2.updOT ho x hT⟩⟩
theorem Rcs.updQ {s:Nat}(h:Rcs K lb n m ra rc w Z)(ho:Own w lb' T s B k c us)(x:UpdO B w w')(hne:∀r,r<n→∀p q,B=some p→ra r=some q→p.block≠q.block)(hT:45≠T:=by decide):Rcs K lb n m ra rc w' Z:=
 ⟨fun r hr=>by obtain⟨zs,o,H⟩:=h.row r hr;exact⟨zs,o.updQ ho x (hne r hr) hT,H⟩,h.dis⟩
theorem Rcs.lt (h:Rcs K lb n m ra rc w Z):∀r,r<n→∀p,ra r=some p→lb≤p.block∧p.block<w.heap.size:=fun r hr p H=>by
 obtain⟨zs,o,_⟩:=h.row r hr
 exact o.block p H
theorem Rcs.own (h:Rcs K lb n m ra rc w Z)(hr:r<n):∃us,Own w lb 41 2 (ra r) m (rc r) us:=by
 obtain⟨zs,o,_⟩:=h.row r hr
 exact o.own
theorem Rcs.at (h:Rcs K lb n m ra rc w Z)(hr:r<n)(hj:j<m):∃p s B k c,(ra r).map (·.add (j*2))=some p∧(∀w',Ext w w'→∀(P:bP) (T:aO),AggT P T 2→(loadVar T p).run P w'= .ok (O s B k c) w')∧k≤K∧Zr w 0 s B k c (Z r j):=by
 obtain⟨zs,U,J⟩:=h.row r hr
 obtain⟨p,s,B,k,c,o,ld,H,I⟩:=U.at hj
 exact⟨p,s,B,k,c,o,ld,H,by rw [←J j hj];exact I.zr⟩
end
section
variable {Q:cE→Act→a0→Prop}{N:Nat}{l:Fr}{w:a0}{ops:Array aP}{rest:List aP}{ty:aO}{pos:String}{af:Array eR}{gd:Option (Nat×Bool)}
theorem pR {m:Nat}{ra:Nat→Option a6}{rc:Nat→Nat}{Z:Mx}{x:cA}{p:a6}(hw:cZ ops l gd=some true)(hx:bT l x=some (.pointer (some p)))(hy:bT l y=some (O e.s e.A e.n e.c))(h:Rcs K lb n m ra rc w Z)(hr:r<n)(hj:j<m)(hp:(ra r).map (·.add (j*2))=some p)(he:Zr w 0 e.s e.A e.n e.c z)(hK:e.n≤K)(k:∀w',Rcs K lb n m ra rc w' (ent Z r j z)→UpdO (ra r) w w'→wl aJ ops Q N rest l w'):wl aJ ops Q N (⟨none,.store 41 x y,ty,pos,af,gd⟩::rest) l w:=by
 obtain⟨zs,I,h2⟩:=h.row r hr
 obtain⟨us,ho⟩:=I.own
 refine kL (e:=e) (z:=z) hw hx hy hp I (bE he) hK (hi:=hj) fun w' h3 J=>k w' ⟨fun s U=>?_,h.dis⟩ J
 by_cases H:s=r
 ·subst H
  refine⟨_,h3,fun b hb=>?_⟩
  rw [jM (by rw [I.len];exact hj)]
  unfold ent
  by_cases o:b=j
  ·rw [if_pos o,if_pos ⟨rfl,o⟩]
  ·rw [if_neg o,if_neg (fun q=>o q.2)];exact h2 b hb
 ·obtain⟨ys,h4,h5⟩:=h.row s U
  refine⟨ys,h4.updO ho J (h.dis r s hr U (fun q=>H q.symm)),fun b hb=>?_⟩
  unfold ent
  rw [if_neg (fun q=>H q.1)];exact h5 b hb
end
structure Apt (lb n g:Nat)(RA NA:Option a6)(ra:Nat→Option a6):Prop where
 lg:lb≤g
 Rg:∀p,RA=some p→p.block≠g
 Ng:∀p,NA=some p→p.block≠g
 rg:∀r,r<n→∀p,ra r=some p→p.block≠g
 RN:∀p q,RA=some p→NA=some q→p.block≠q.block
 Rr:∀r,r<n→∀p q,RA=some p→ra r=some q→p.block≠q.block
 Nr:∀r,r<n→∀p q,NA=some p→ra r=some q→p.block≠q.block
def zM (lb n g:Nat)(RA NA:Option a6)(rcap ncap:Nat)(ra:Nat→Option a6)(rc:Nat→Nat)(ps:List Nat)(Z:Mx)(tu:Bool)(z:Int)(t:Nat)(w:a0):Prop:=
 ∃sl Al nl cl,∃ns:List Int,Bk w g 81 [By RA n rcap,By NA n ncap,.bool tu,.bool sl,By Al nl cl,AI (t:Int)]∧Zr w 0 sl Al nl cl z∧
  Own w lb 22 1 RA n rcap (ps.map (dW ra rc n))∧Own w lb 3 1 NA n ncap (ns.map gX)∧Rcs 17179869184 lb n n ra rc w Z
end
section
def pm:Nat→Int
 | 0=>1
 | i+1=> -pm i
def sk (i r:Nat):Nat:=if r<i then r else r+1
def mi (A:Mx)(i:Nat):Mx:=fun r c=>A (sk i r) (c+1)
def dt:Nat→Mx→Int
 | 0,_=>1
 | n+1,A=>sm (n+1) fun i=>pm i*(A i 0*dt n (mi A i))
def bI (A:Mx)(r:Nat)(u:Nat→Int):Mx:=fun i j=>if i=r then u j else A i j
theorem eG (A:Mx)(r:Nat)(u:Nat→Int)(j:Nat):bI A r u r j=u j:=if_pos rfl
theorem eF (A:Mx)(u:Nat→Int)(j:Nat)(h:i≠r):bI A r u i j=A i j:=if_neg h
theorem sW (hr:r<n):sk i r<n+1:=by unfold sk;split <;> omega
theorem fA {A B:Mx}(h:∀i j,i<n→j<n→A i j=B i j):dt n A=dt n B:=by
 induction n generalizing A B with
 | zero=>rfl
 | succ n ih=>
  refine cX fun i hi=>?_
  rw [h i 0 hi (by omega),ih (A:=mi A i) (B:=mi B i) fun r c hr hc=>h _ _ (sW hr) (by omega)]
structure Alt (n:Nat)(F:Mx→Int):Prop where
 congr:∀A B:Mx,(∀i j,i<n→j<n→A i j=B i j)→F A=F B
 lin:∀(A:Mx) (r:Nat) (x:Int) (u v:Nat→Int),r<n→F (bI A r fun j=>x*u j+v j)=x*F (bI A r u)+F (bI A r v)
 alt:∀(A:Mx) (r s:Nat),r<s→s<n→(∀j,j<n→A r j=A s j)→F A=0
section
variable {n:Nat}{F:Mx→Int}
theorem BJ (A:Mx)(r:Nat):bI A r (A r)=A:=by
 funext i j;unfold bI;split
 ·next h=>rw [h]
 ·rfl
theorem Alt.row0 (h:Alt n F)(A:Mx)(hr:r<n):F (bI A r fun _=>0)=0:=by
 have:=h.lin A r 1 (fun _=>0) (fun _=>0) hr
 simp only [Int.mul_zero,Int.add_zero] at this
 omega
theorem Alt.sum (h:Alt n F)(A:Mx)(hr:r<n)(m:Nat)(c:Nat→Int)(U:Nat→Nat→Int):F (bI A r fun j=>sm m fun l=>c l*U l j)=sm m fun l=>c l*F (bI A r (U l)):=by
 induction m with
 | zero=>exact h.row0 A hr
 | succ m ih=>
  have e:(fun j=>sm (m+1) fun l=>c l*U l j)=fun j=>c m*U m j+sm m fun l=>c l*U l j:=by
   funext j;exact Int.add_comm _ _
  rw [e,h.lin A r _ _ _ hr,ih];simp only [sm];omega
theorem Alt.of_adj (hc:∀A B:Mx,(∀i j,i<n→j<n→A i j=B i j)→F A=F B)(hl:∀(A:Mx) (r:Nat) (x:Int) (u v:Nat→Int),r<n→F (bI A r fun j=>x*u j+v j)=x*F (bI A r u)+F (bI A r v))(ha:∀(A:Mx) (r:Nat),r+1<n→(∀j,j<n→A r j=A (r+1) j)→F A=0):Alt n F:=by
 have hs:∀(A:Mx) (r:Nat),r+1<n→F (bI (bI A r (A (r+1))) (r+1) (A r))= -F A:=fun A r hr=>by
  let D:=fun (u v:Nat→Int)=>F (bI (bI A r u) (r+1) v)
  have l2:∀u v v',D u (fun j=>1*v j+v' j)=D u v+D u v':=fun u v v'=>by
   have:=hl (bI A r u) (r+1) 1 v v' hr
   rw [Int.one_mul] at this
   exact this
  have sw:∀u v,bI (bI A r u) (r+1) v=bI (bI A (r+1) v) r u:=fun u v=>by
   funext i j;unfold bI;split <;> (try split) <;> (first | omega | rfl)
  have l1:∀u u' v,D (fun j=>1*u j+u' j) v=D u v+D u' v:=fun u u' v=>by
   show F _=F _+F _
   rw [sw,sw,sw,hl _ r 1 u u' (by omega),Int.one_mul]
  have z:∀u,D u u=0:=fun u=>ha _ r hr fun j _=>by
   rw [eG,eF _ _ _ (by omega),eG]
  have a:=z (fun j=>1*A r j+A (r+1) j)
  rw [l1,l2,l2,z,z] at a
  have b:D (A r) (A (r+1))=F A:=by
   show F _=_
   congr 1
   funext i j;unfold bI;split
   ·next h=>rw [h]
   ·split
    ·next h=>rw [h]
    ·rfl
  have c:F (bI (bI A r (A (r+1))) (r+1) (A r))=D (A (r+1)) (A r):=rfl
  rw [c];omega
 refine⟨hc,hl,fun A r s hrs hsn he=>?_⟩
 obtain⟨k,rfl⟩:∃k,s=r+1+k:=⟨s-(r+1),by omega⟩
 clear hrs
 induction k generalizing A with
 | zero=>exact ha A r hsn he
 | succ k ih=>
  have:=hs A (r+1+k) hsn
  have h2:=ih (bI (bI A (r+1+k) (A (r+1+k+1))) (r+1+k+1) (A (r+1+k))) (by omega) fun j hj=>by
   rw [eF _ _ _ (by omega),eF _ _ _ (by omega),eF _ _ _ (by omega),eG]
   exact he j hj
  omega
theorem Alt.swap (h:Alt n F)(A:Mx){s:Nat}(hr:r<n)(hs:s<n)(hne:r≠s):F (bI (bI A r (A s)) s (A r))= -F A:=by
 let D:=fun (u v:Nat→Int)=>F (bI (bI A r u) s v)
 have H:∀u v v',D u (fun j=>1*v j+v' j)=D u v+D u v':=fun u v v'=>by
  have:=h.lin (bI A r u) s 1 v v' hs
  rw [Int.one_mul] at this
  exact this
 have sw:∀u v,bI (bI A r u) s v=bI (bI A s v) r u:=fun u v=>by
  funext i j;unfold bI;split <;> (try split) <;> (first | omega | rfl)
 have I:∀u u' v,D (fun j=>1*u j+u' j) v=D u v+D u' v:=fun u u' v=>by
  show F _=F _+F _
  rw [sw,sw,sw,h.lin _ r 1 u u' hr,Int.one_mul]
 have z:∀u,D u u=0:=fun u=>by
  by_cases o:r<s
  ·exact h.alt _ r s o hs fun j _=>by rw [eG,eF _ _ _ hne,eG]
  ·exact h.alt _ s r (by omega) hr fun j _=>by rw [eG,eF _ _ _ hne,eG]
 have a:=z (fun j=>1*A r j+A s j)
 rw [I,H,H,z,z] at a
 have b:D (A r) (A s)=F A:=by
  show F _=_
  congr 1
  funext i j;unfold bI;split
  ·next h=>rw [h]
  ·split
   ·next h=>rw [h]
   ·rfl
 have c:F (bI (bI A r (A s)) s (A r))=D (A s) (A r):=rfl
 rw [c];omega
theorem Alt.add (h:Alt n F)(A:Mx)(hr:r<n)(x:Int)(m:Nat)(y:Nat→Int)(ρ:Nat→Nat)(hρ:∀l,l<m→ρ l<n∧ρ l≠r):F (bI A r fun j=>x*A r j+sm m fun l=>y l*A (ρ l) j)=x*F A:=by
 rw [h.lin A r x (A r) _ hr,BJ,h.sum A hr m y (fun l j=>A (ρ l) j)]
 have:(sm m fun l=>y l*F (bI A r fun j=>A (ρ l) j))=0:=by
  rw [←i0 m]
  refine cX fun l hl=>?_
  obtain⟨I,H⟩:=hρ l hl
  have:F (bI A r fun j=>A (ρ l) j)=0:=by
   by_cases o:r<ρ l
   ·exact h.alt _ r (ρ l) o I fun j _=>by rw [eG,eF _ _ _ H]
   ·exact h.alt _ (ρ l) r (by omega) hr fun j _=>by rw [eG,eF _ _ _ H]
  rw [this,Int.mul_zero]
 rw [this];omega
def ef (f:Nat→Nat):Mx:=fun i j=>if f i=j then 1 else 0
theorem CC:∀(n:Nat) (f:Nat→Nat),(∀i,i<n+1→f i<n)→∃i j,i<j∧j<n+1∧f i=f j
 | 0,f,h=>absurd (h 0 (by omega)) (by omega)
 | n+1,f,h=>by
  by_cases he:∃i,i<n+1∧f i=f (n+1)
  ·obtain⟨i,hi,e⟩:=he;exact⟨i,n+1,hi,by omega,e⟩
  ·obtain⟨i,j,o,hj,e⟩:=CC n (fun i=>if f i=n then f (n+1) else f i) fun i hi=>by
    have U:=h i (by omega)
    have I:=h (n+1) (by omega)
    have H:f i≠f (n+1):=fun e=>he ⟨i,hi,e⟩
    show (if f i=n then f (n+1) else f i)<n
    split <;> omega
   refine⟨i,j,o,by omega,?_⟩
   have H:f i≠f (n+1):=fun e=>he ⟨i,by omega,e⟩
   have J:f j≠f (n+1):=fun e=>he ⟨j,by omega,e⟩
   split at e <;> split at e <;> omega
theorem Alt.ef0 (h : Alt n F)(h0 : F m1 = 0): ∀ (k : Nat), k ≤ n → ∀ f : Nat → Nat, (∀ i, i < n → f i < n) → (∀ i, i < n - k → f i = i) → F (ef f) = 0
  | 0, _, f, _, hi => by
    rw [h.congr _ m1 fun i j h1 _ => by unfold ef m1; rw [hi i (by omega)]]; exact h0
  | k + 1, hk, f, hf, hi => by
    by_cases he : f (n - (k + 1)) = n - (k + 1)
    · exact Alt.ef0 h h0 k (by omega) f hf fun i h1 => by
        by_cases e : i = n - (k + 1)
        · subst e; exact he
        · exact hi i (by omega)
    by_cases hs : ∃ s, n - (k + 1) < s ∧ s < n ∧ f s = n - (k + 1)
    · obtain ⟨s, h1, h2, h3⟩ := hs
      have hw := h.swap (ef f) (show n - (k + 1) < n by omega) h2 (by omega)
      have U := Alt.ef0 h h0 k (by omega) (fun i => if i = n - (k + 1) then f s else if i = s then f (n - (k + 1)) else f i) (fun i h1 => by
        show (if i = n - (k + 1) then f s else if i = s then f (n - (k + 1)) else f i) < n
        split
        · exact hf s h2
        · split
          · exact hf _ (by omega)
          · exact hf i h1) (fun i h1 => by
        show (if i = n - (k + 1) then f s else if i = s then f (n - (k + 1)) else f i) = i
        split
        · omega
        · rw [if_neg (by omega)]; exact hi i (by omega))
      have e : bI (bI (ef f) (n - (k + 1)) (ef f s)) s (ef f (n - (k + 1))) = ef (fun i => if i = n - (k + 1) then f s else if i = s then f (n - (k + 1)) else f i) := by
        funext i j
        unfold bI
        by_cases o : i = s
        · rw [if_pos o]
          show (if f (n - (k + 1)) = j then (1 : Int) else 0) = if (if i = n - (k + 1) then f s else if i = s then f (n - (k + 1)) else f i) = j then 1 else 0
          rw [if_neg (show ¬ i = n - (k + 1) by omega), if_pos o]
        · rw [if_neg o]
          show _ = if (if i = n - (k + 1) then f s else if i = s then f (n - (k + 1)) else f i) = j then (1 : Int) else 0
          by_cases I : i = n - (k + 1)
          · rw [if_pos I, if_pos I]; rfl
          · rw [if_neg I, if_neg I, if_neg o]; rfl
      rw [e, U] at hw
      omega
    · -- none goes there: two go to one place
      obtain ⟨i, j, J, hj, e⟩ := CC (n - 1) (fun i => if f i = n - 1 then n - (k + 1) else f i) fun i h1 => by
        have h2 := hf i (by omega)
        show (if f i = n - 1 then n - (k + 1) else f i) < n - 1
        split
        · next h3 =>
          by_cases U : k = 0
          · subst U
            exfalso
            by_cases o : i = n - 1
            · subst o; exact he h3
            · have := hi i (by omega); omega
          · omega
        · omega
      have H : ∀ t, t < n → f t ≠ n - (k + 1) := fun t ht e => by
        by_cases h1 : t < n - (k + 1)
        · have := hi t h1; omega
        · by_cases h2 : t = n - (k + 1)
          · subst h2; exact he e
          · exact hs ⟨t, by omega, ht, e⟩
      refine h.alt _ i j J (by omega) fun c _ => ?_
      have e' : f i = f j := by
        have h1 := H i (by omega)
        have h2 := H j (by omega)
        split at e <;> split at e <;> omega
      unfold ef
      rw [e']
theorem Alt.zero (h:Alt n F)(h0:F m1=0):∀(k:Nat),k≤n→∀(A:Mx) (f:Nat→Nat),(∀i,i<n→f i<n)→(∀i j,k≤i→i<n→j<n→A i j=ef f i j)→F A=0
 | 0,_,A,f,hf,ha=>by
  rw [h.congr A (ef f) fun i j hi hj=>ha i j (by omega) hi hj]
  exact h.ef0 h0 n (by omega) f hf fun i hi=>by omega
 | k+1,hk,A,f,hf,ha=>by
  have e:F A=F (bI A k fun j=>sm n fun l=>A k l*ef (fun _=>l) 0 j):=h.congr _ _ fun i j hi hj=>by
   by_cases H:i=k
   ·subst H
    rw [eG]
    have:(sm n fun l=>A i l*ef (fun _=>l) 0 j)=sm n fun l=>if l=j then A i l else 0:=cX fun l _=>by
     unfold ef;split <;> omega
    rw [this,iP hj]
   ·rw [eF _ _ _ H]
  rw [e,h.sum A (by omega) n (A k) (fun l=>ef (fun _=>l) 0),←i0 n]
  refine cX fun l hl=>?_
  rw [Alt.zero h h0 k (by omega) _ (fun i=>if i=k then l else f i) (fun i hi=>by
   show (if i=k then l else f i)<n
   split
   ·exact hl
   ·exact hf i hi) (fun i j H hi hj=>by
   by_cases o:i=k
   ·subst o;rw [eG];show _=if (if i=i then l else f i)=j then (1:Int) else 0;rw [if_pos rfl];rfl
   ·rw [eF _ _ _ o,ha i j (by omega) hi hj];show _=if (if i=k then l else f i)=j then (1:Int) else 0;rw [if_neg o];rfl),Int.mul_zero]
end
theorem xD (A:Mx)(r:Nat)(u:Nat→Int):mi (bI A r u) r=mi A r:=by
 funext i j;unfold mi;exact eF _ _ _ (by unfold sk;split <;> omega)
theorem xB (A:Mx)(u:Nat→Int)(h:r<i):mi (bI A r u) i=bI (mi A i) r (fun j=>u (j+1)):=by
 funext a b;unfold mi bI sk
 by_cases e:a=r
 ·subst e;rw [if_pos h,if_pos rfl,if_pos rfl]
 ·rw [if_neg e];rw [if_neg];split <;> omega
theorem xC (A:Mx)(u:Nat→Int)(h:i<r):mi (bI A r u) i=bI (mi A i) (r-1) (fun j=>u (j+1)):=by
 funext a b;unfold mi bI sk
 by_cases e:a=r-1
 ·subst e;rw [if_neg (show¬r-1<i by omega),if_pos (by omega),if_pos rfl]
 ·rw [if_neg e];rw [if_neg];split <;> omega
theorem yE:∀(n:Nat) (A:Mx) (r:Nat) (x:Int) (u v:Nat→Int),r<n→dt n (bI A r fun j=>x*u j+v j)=x*dt n (bI A r u)+dt n (bI A r v)
 | 0,_,r,_,_,_,h=>by omega
 | n+1,A,r,x,u,v,h=>by
  simp only [dt]
  rw [←jE,←kM]
  refine cX fun i hi=>?_
  by_cases e:i=r
  ·subst e
   rw [xD,xD,xD,eG,eG,eG];grind
  ·rw [eF _ _ _ e,eF _ _ _ e,eF _ _ _ e]
   by_cases hlt:r<i
   ·rw [xB _ _ hlt,xB _ _ hlt,xB _ _ hlt,yE n (mi A i) r x _ _ (by omega)];grind
   ·rw [xC _ _ (show i<r by omega),xC _ _ (show i<r by omega),xC _ _ (show i<r by omega),yE n (mi A i) (r-1) x _ _ (by omega)];grind
theorem IJ (h:r+1<n)(f:Nat→Int)(h0:∀i,i<n→i≠r→i≠r+1→f i=0):sm n f=f r+f (r+1):=by
 rw [cX (g:=fun i=>(if i=r then f i else 0)+if i=r+1 then f i else 0) (fun i hi=>by
  by_cases e:i=r
  ·subst e;rw [if_pos rfl,if_neg (by omega)];omega
  ·by_cases o:i=r+1
   ·subst o;rw [if_neg e,if_pos rfl];omega
   ·rw [if_neg e,if_neg o,h0 i hi e o];rfl),kM,iP (by omega),iP h]
theorem yG:∀(n:Nat) (A:Mx) (r:Nat),r+1<n→(∀j,j<n→A r j=A (r+1) j)→dt n A=0
 | 0,_,r,h,_=>by omega
 | n+1,A,r,h,he=>by
  simp only [dt]
  rw [IJ h _ fun i hi h1 h2=>?_]
  ·have e:dt n (mi A r)=dt n (mi A (r+1)):=fA fun i j hi hj=>by
    unfold mi sk
    by_cases o:i<r
    ·rw [if_pos o,if_pos (by omega)]
    ·by_cases H:i=r
     ·subst H;rw [if_neg o,if_pos (by omega)];exact (he (j+1) (by omega)).symm
     ·rw [if_neg o,if_neg (by omega)]
   rw [e,he 0 (by omega)];simp only [pm];rw [Int.neg_mul];omega
  ·have:dt n (mi A i)=0:=by
    by_cases o:i<r
    ·refine yG n (mi A i) (r-1) (by omega) fun j hj=>?_
     unfold mi sk
     rw [if_neg (by omega),if_neg (by omega),show r-1+1=r by omega];exact he (j+1) (by omega)
    ·refine yG n (mi A i) r (by omega) fun j hj=>?_
     unfold mi sk
     rw [if_pos (by omega),if_pos (by omega)];exact he (j+1) (by omega)
   rw [this,Int.mul_zero,Int.mul_zero]
theorem p8 (n:Nat):Alt n (dt n):=Alt.of_adj (fun _ _ h=>fA h) (fun A r x u v h=>yE n A r x u v h) (fun A r h o=>yG n A r h o)
theorem yD:∀n,dt n m1=1
 | 0=>rfl
 | n+1=>by
  simp only [dt]
  rw [sV,cX (g:=fun _=>0) (fun i _=>by
   have:m1 (i+1) 0=0:=if_neg (by omega)
   rw [this];grind),i0]
  have e:mi m1 0=m1:=by
   funext a b;unfold mi sk m1
   rw [if_neg (show¬a<0 by omega)]
   by_cases h:a=b
   ·rw [if_pos h,if_pos (by omega)]
   ·rw [if_neg h,if_neg (by omega)]
  rw [e,yD n];rfl
theorem Alt.eq {F:Mx→Int}(h:Alt n F)(A:Mx):F A=dt n A*F m1:=by
 have H:=p8 n
 have o:Alt n (fun A=> -F m1*dt n A+F A):=⟨fun A B e=>by show _=_;rw [H.congr A B e,h.congr A B e],
  fun A r x u v hr=>by show _*_+_=x*(_*_+_)+(_*_+_);rw [H.lin A r x u v hr,h.lin A r x u v hr];grind,
  fun A r s I o J=>by show _*_+_=_;rw [H.alt A r s I o J,h.alt A r s I o J];omega⟩
 have:=o.zero (by show-F m1*dt n m1+F m1=0;rw [yD];omega) n (by omega) A id (fun i hi=>hi) (fun i j I o=>by omega)
 have e: -F m1*dt n A+F A=0:=this
 rw [Int.neg_mul] at e
 rw [Int.mul_comm];omega
theorem qY (n:Nat)(A B:Mx):dt n (mm n A B)=dt n A*dt n B:=by
 have J:=p8 n
 have e:∀(A:Mx) (r:Nat) (u:Nat→Int),mm n (bI A r u) B=bI (mm n A B) r fun j=>sm n fun k=>u k*B k j:=fun A r u=>by
  funext i j
  by_cases h:i=r
  ·subst h;rw [eG];exact cX fun k _=>by rw [eG]
  ·rw [eF _ _ _ h];exact cX fun k _=>by rw [eF _ _ _ h]
 have h:Alt n (fun A=>dt n (mm n A B)):=⟨fun A A' I=>fA fun i j hi hj=>KQ (fun k H=>I i k hi H) (fun k _=>rfl),
  fun A r x u v hr=>by
   show dt n _=x*dt n _+dt n _
   rw [e,e,e,←J.lin _ r x _ _ hr]
   congr 2
   funext j
   rw [←jE,←kM];exact cX fun k _=>by grind,
  fun A r s h1 o I=>J.alt _ r s h1 o fun j _=>cX fun k H=>by rw [I k H]⟩
 have o:=h.eq A
 have U:dt n (mm n m1 B)=dt n B:=fA fun i j hi _=>KW B j hi
 simp only [U] at o
 exact o
def tq (A:Mx):Mx:=fun i j=>A j i
theorem EH:∀(n:Nat) (A:Mx) (r:Nat) (x:Int) (u v:Nat→Int),r<n→dt n (tq (bI A r fun j=>x*u j+v j))=x*dt n (tq (bI A r u))+dt n (tq (bI A r v))
 | 0,_,r,_,_,_,h=>by omega
 | n+1,A,r,x,u,v,h=>by
  simp only [dt]
  rw [←jE,←kM]
  refine cX fun i hi=>?_
  cases r with
  | zero=>
   have e:∀w:Nat→Int,mi (tq (bI A 0 w)) i=mi (tq A) i:=fun w=>by
    funext a b;unfold mi tq;exact eF _ _ _ (by omega)
   rw [e,e,e]
   show _*((x*u i+v i)*_)=x*(_*(u i*_))+_*(v i*_)
   grind
  | succ r=>
   have e:∀w:Nat→Int,mi (tq (bI A (r+1) w)) i=tq (bI (tq (mi (tq A) i)) r fun j=>w (sk i j)):=fun w=>by
    funext a b
    show bI A (r+1) w (b+1) (sk i a)=bI (tq (mi (tq A) i)) r (fun j=>w (sk i j)) b a
    by_cases h:b=r
    ·subst h;rw [eG,eG]
    ·rw [eF _ _ _ (by omega),eF _ _ _ h];rfl
   have o:∀w:Nat→Int,tq (bI A (r+1) w) i 0=A 0 i:=fun w=>eF _ _ _ (by omega)
   rw [e,e,e,o,o,o,EH n _ r x (fun j=>u (sk i j)) (fun j=>v (sk i j)) (by omega)];grind
theorem IM {p:Nat}(h:p<q):sk q (sk p r)=sk p (sk (q-1) r):=by
 unfold sk
 by_cases o:r<p
 ·rw [if_pos o,if_pos (show r<q by omega),if_pos (show r<q-1 by omega),if_pos o]
 ·rw [if_neg o]
  by_cases H:r+1<q
  ·rw [if_pos H,if_pos (show r<q-1 by omega),if_neg o]
  ·rw [if_neg H,if_neg (show¬r<q-1 by omega),if_neg (show¬r+1<p by omega)]
theorem CB (i j:Nat):pm (i+j)=pm i*pm j:=by
 induction j with
 | zero=>simp [pm]
 | succ j ih=>rw [←jU,pm,ih,pm,Int.mul_neg]
theorem P6 (n:Nat)(A:Mx)(h:∀i,i<n+2→A i 0=A i 1):dt (n+2) A=0:=by
 let g:=fun p q=>pm (p+q)*(A p 0*A q 0*dt n fun r c=>A (sk q (sk p r)) (c+2))
 have I:dt (n+2) A=sm (n+2) fun i=>sm (n+1) fun k=>pm i*(A i 0*(pm k*(A (sk i k) 0*dt n fun r c=>A (sk i (sk k r)) (c+2)))):=by
  rw [dt]
  refine cX fun i hi=>?_
  rw [dt,←jE,←jE]
  refine cX fun k H=>?_
  have:mi A i k 0=A (sk i k) 0:=(h _ (sW H)).symm
  rw [this];rfl
 have e2:∀i,i<n+2→(sm (n+1) fun k=>pm i*(A i 0*(pm k*(A (sk i k) 0*dt n fun r c=>A (sk i (sk k r)) (c+2)))))=(sm (n+2) fun k=>if k<i then g k i else 0)+ -1*sm (n+2) fun l=>if i<l then g i l else 0:=fun i hi=>by
  have U:(sm (n+2) fun k=>if k<i then g k i else 0)=sm (n+1) fun k=>if k<i then g k i else 0:=by
   show _+(if n+1<i then g (n+1) i else 0)=_
   rw [if_neg (by omega)];omega
  rw [U,sV (n+1) fun l=>if i<l then g i l else 0,if_neg (by omega),Int.zero_add,←jE,←kM]
  refine cX fun k H=>?_
  by_cases o:k<i
  ·rw [if_pos o,if_neg (by omega)]
   have:sk i k=k:=if_pos o
   rw [this]
   show _=pm (k+i)*_+_
   rw [CB];grind
  ·rw [if_neg o,if_pos (by omega)]
   have J:sk i k=k+1:=if_neg o
   have h3:(fun r c=>A (sk i (sk k r)) (c+2))=fun r c=>A (sk (k+1) (sk i r)) (c+2):=by
    funext r c
    rw [IM (show i<k+1 by omega)];rfl
   rw [J,h3]
   show _=0+ -1*(pm (i+(k+1))*_)
   rw [CB];simp only [pm];grind
 rw [I,cX e2,kM,jE,IK];omega
theorem EI:∀(n:Nat) (A:Mx) (r:Nat),r+1<n→(∀i,i<n→A i r=A i (r+1))→dt n A=0
 | 0,_,r,h,_=>by omega
 | 1,_,r,h,_=>by omega
 | n+2,A,0,_,he=>P6 n A he
 | n+2,A,r+1,h,he=>by
  rw [dt,←i0 (n+2)]
  refine cX fun i hi=>?_
  rw [EI (n+1) (mi A i) r (by omega) fun a ha=>he _ (sW ha)];grind
theorem yC (n:Nat):Alt n (fun A=>dt n (tq A)):=
 Alt.of_adj (fun _ _ h=>fA fun i j hi hj=>h j i hj hi) (fun A r x u v h=>EH n A r x u v h) (fun A r h o=>EI n (tq A) r h fun i hi=>o i hi)
theorem oZ (n:Nat)(A:Mx):dt n (tq A)=dt n A:=by
 have:=(yC n).eq A
 have e:tq m1=m1:=by
  funext i j
  show (if j=i then (1:Int) else 0)=if i=j then 1 else 0
  by_cases h:i=j
  ·rw [if_pos h,if_pos h.symm]
  ·rw [if_neg h,if_neg (fun e=>h e.symm)]
 simp only [e,yD,Int.mul_one] at this
 exact this
theorem yF:∀(k:Nat) (A:Mx),(∀j,j<k→A k j=0)→dt (k+1) A=A k k*dt k A
 | 0,A,_=>by simp [dt,sm,pm]
 | k+1,A,h=>by
  have e0:dt (k+2) A=(sm (k+1) fun i=>pm i*(A i 0*dt (k+1) (mi A i)))+pm (k+1)*(A (k+1) 0*dt (k+1) (mi A (k+1))):=rfl
  have:∀i,i<k+1→pm i*(A i 0*dt (k+1) (mi A i))=A (k+1) (k+1)*(pm i*(A i 0*dt k (mi A i))):=fun i hi=>by
   have e:mi A i k=fun c=>A (k+1) (c+1):=by
    funext c;unfold mi sk;rw [if_neg (by omega)]
   rw [yF k (mi A i) fun j hj=>by rw [e];exact h (j+1) (by omega),e];grind
  rw [e0,h 0 (by omega),cX this,jE,Int.zero_mul,Int.mul_zero,Int.add_zero];rfl
def eM (P:Mx)(k i j:Nat):Mx:=fun r c=>P (if r<k then r else i) (if c<k then c else j)
def bm (P:Mx)(k i j:Nat):Int:=dt (k+1) (eM P k i j)
theorem QL (P:Mx)(i j:Nat):bm P 0 i j=P i j:=by simp [bm,eM,dt,sm,pm]
theorem FC (P:Mx)(k:Nat):bm P k k k=dt (k+1) P:=fA fun i j hi hj=>by
 unfold eM
 have h:(if i<k then i else k)=i:=by split <;> omega
 have o:(if j<k then j else k)=j:=by split <;> omega
 rw [h,o]
theorem yT (P:Mx)(k i:Nat):∃x:Nat→Int,∀j,bm P k i j=dt k P*P i j+sm k fun l=>x l*P l j:=by
 let B:=tq (eM P k i 0)
 let U:=fun l=>dt (k+1) (tq (bI B k fun r=>if l=r then 1 else 0))
 refine⟨U,fun j=>?_⟩
 have h:=yC (k+1)
 have e:bm P k i j=dt (k+1) (tq (bI B k fun r=>sm (k+1) fun l=>P (if l<k then l else i) j*if l=r then 1 else 0)):=fA fun r c hr _=>by
  show _=bI B k _ c r
  by_cases h:c=k
  ·subst h
   rw [eG,cX (g:=fun l=>if l=r then P (if l<c then l else i) j else 0) (fun l _=>by
    by_cases o:l=r
    ·rw [if_pos o,if_pos o,Int.mul_one]
    ·rw [if_neg o,if_neg o,Int.mul_zero]),iP hr]
   unfold eM;rw [if_neg (show¬c<c by omega)]
  ·rw [eF _ _ _ h]
   show P _ (if c<k then c else j)=P _ (if c<k then c else 0)
   rw [if_pos (show c<k by omega),if_pos (show c<k by omega)]
 have I:U k=dt k P:=by
  show dt (k+1) (tq _)=_
  rw [oZ,yF k _ fun j hj=>by rw [eG,if_neg (show¬k=j by omega)],eG,if_pos rfl,Int.one_mul,←oZ]
  refine fA fun a b H hb=>?_
  show bI B k _ b a=_
  rw [eF _ _ _ (by omega)]
  show P (if a<k then a else i) (if b<k then b else 0)=_
  rw [if_pos H,if_pos hb]
 rw [e,h.sum B (by omega) (k+1) (fun l=>P (if l<k then l else i) j) (fun l r=>if l=r then 1 else 0)]
 show (sm k fun l=>P (if l<k then l else i) j*U l)+P (if k<k then k else i) j*U k=_
 rw [I,if_neg (show¬k<k by omega),cX (g:=fun l=>U l*P l j) (fun l hl=>by rw [if_pos hl,Int.mul_comm]),Int.mul_comm];omega
theorem FB (P:Mx)(k i j:Nat):bm (tq P) k j i=bm P k i j:=(oZ (k+1) (eM P k i j))
theorem FF (P:Mx)(k j:Nat):∃z:Nat→Int,∀i,bm P k i j=dt k P*P i j+sm k fun l=>z l*P i l:=by
 obtain⟨z,h⟩:=yT (tq P) k j
 exact⟨z,fun i=>by rw [←FB,h i,oZ];rfl⟩
theorem FE (P:Mx)(j:Nat)(hi:i<k):bm P k i j=0:=(p8 (k+1)).alt _ i k hi (by omega) fun c _=>by
 unfold eM;rw [if_pos hi,if_neg (show¬k<k by omega)]
theorem FD (P:Mx)(i:Nat)(hj:j<k):bm P k i j=0:=by rw [←FB];exact FE _ _ hj
theorem QG (D E d U V X Y:Int):D*(d*U+X)-E*(d*V+Y)=D*d*U+(D*X+ -E*Y+ -E*d*V):=by grind
theorem QI (P:Mx)(i j:Nat)(hD:bm P k k k≠0):bm P k k k*bm P k i j-bm P k i k*bm P k k j=dt k P*bm P (k+1) i j:=by
 obtain⟨x,hx⟩:=yT P k i
 obtain⟨y,U⟩:=yT P k k
 let N:=eM P (k+1) i j
 let R:=fun c=>bm P k k k*bm P k i (if c<k+1 then c else j)-bm P k i k*bm P k k (if c<k+1 then c else j)
 have h:=p8 (k+2)
 have e:bI N (k+1) R=bI N (k+1) fun c=>(bm P k k k*dt k P)*N (k+1) c+sm (k+1) fun l=>(if l<k then bm P k k k*x l-bm P k i k*y l else-bm P k i k*dt k P)*N l c:=by
  congr 1
  funext c
  have n1:N (k+1) c=P i (if c<k+1 then c else j):=by show P (if k+1<k+1 then k+1 else i) _=_;rw [if_neg (show¬k+1<k+1 by omega)]
  have I:∀l,l<k+1→N l c=P l (if c<k+1 then c else j):=fun l hl=>by show P (if l<k+1 then l else i) _=_;rw [if_pos hl]
  rw [sm,n1,I k (by omega),if_neg (show¬k<k by omega),cX (g:=fun l=>bm P k k k*(x l*P l (if c<k+1 then c else j))+ -bm P k i k*(y l*P l (if c<k+1 then c else j))) (fun l hl=>by rw [if_pos hl,I l (by omega)];grind),kM,jE,jE]
  show bm P k k k*bm P k i (if c<k+1 then c else j)-bm P k i k*bm P k k (if c<k+1 then c else j)=_
  rw [hx (if c<k+1 then c else j),U (if c<k+1 then c else j)]
  exact QG _ _ _ _ _ _ _
 have a:=h.add N (show k+1<k+2 by omega) (bm P k k k*dt k P) (k+1) (fun l=>if l<k then bm P k k k*x l-bm P k i k*y l else-bm P k i k*dt k P) (fun l=>l) (fun l hl=>⟨by omega,by omega⟩)
 rw [←e,yF (k+1) _ fun c o=>?_,eG] at a
 ·have e3:dt (k+1) (bI N (k+1) R)=bm P k k k:=by
   rw [FC]
   refine fA fun r c hr o=>?_
   rw [eF _ _ _ (by omega)]
   show P (if r<k+1 then r else i) (if c<k+1 then c else j)=_
   rw [if_pos hr,if_pos o]
  rw [e3] at a
  have e4:R (k+1)=bm P k k k*bm P k i j-bm P k i k*bm P k k j:=by
   show bm P k k k*bm P k i (if k+1<k+1 then k+1 else j)-bm P k i k*bm P k k (if k+1<k+1 then k+1 else j)=_
   rw [if_neg (show¬k+1<k+1 by omega)]
  rw [e4] at a
  have J:dt (k+2) N=bm P (k+1) i j:=rfl
  rw [J] at a
  refine Int.eq_of_mul_eq_mul_left hD ?_
  rw [Int.mul_comm,a,Int.mul_assoc]
 ·rw [eG]
  show _*bm P k i (if c<k+1 then c else j)-_*bm P k k (if c<k+1 then c else j)=0
  rw [if_pos o]
  by_cases H:c<k
  ·rw [FD P i H,FD P k H];omega
  ·have:c=k:=by omega
   subst this;rw [Int.mul_comm];omega
theorem QJ (P:Mx)(hk:k<n)(hd:dt k P≠0)(h:∀i,k≤i→i<n→bm P k i k=0):dt n P=0:=by
 obtain⟨z,J⟩:=FF P k k
 have H:=yC n
 have a:=H.add (tq P) hk (dt k P) k z (fun l=>l) (fun l hl=>⟨by omega,by omega⟩)
 have e:dt n (tq (bI (tq P) k fun i=>dt k P*tq P k i+sm k fun l=>z l*tq P l i))=dt n (tq (bI (tq P) k fun _=>0)):=fA fun i j hi hj=>by
  show bI (tq P) k _ j i=bI (tq P) k _ j i
  by_cases o:j=k
  ·subst o
   rw [eG,eG]
   show dt j P*P i j+(sm j fun l=>z l*P i l)=0
   rw [←J i]
   by_cases I:i<j
   ·exact FE P j I
   ·exact h i (by omega) hi
  ·rw [eF _ _ _ o,eF _ _ _ o]
 rw [e,H.row0 (tq P) hk] at a
 have:dt k P*dt n P=0:=a.symm
 rcases Int.mul_eq_zero.1 this with h | h
 ·exact absurd h hd
 ·exact h
end
section
open Go.RowKit
theorem L9 (i:Nat)(x:Int):ln (pm i*x)=ln x:=by
 induction i with
 | zero=>rw [pm,Int.one_mul]
 | succ i ih=>rw [pm,Int.neg_mul,gL,ih]
theorem mI {K:Nat}:∀(n:Nat) (A:Mx),(∀i j,i<n→j<n→ln (A i j)≤K)→ln (dt n A)≤1+n*(K+n)
 | 0,_,_=>a7 (qJ (x:=1) (by decide) (by decide)) (by omega)
 | n+1,A,h=>by
  have h1:ln (dt (n+1) A)≤K+(1+n*(K+n))+(n+1):=D8 fun i hi=>by
   rw [L9]
   exact eX (h i 0 hi (by omega)) (mI n _ fun a b o hb=>h _ _ (sW o) (by omega))
  have e:(n+1)*(K+(n+1))=n*(K+n)+n+(K+(n+1)):=by rw [gO,←jU K n 1,Nat.mul_add n (K+n) 1];omega
  omega
theorem D9 {A:Mx}(hn:n≤64)(h:∀i j,i<n→j<n→ln (A i j)≤1048576)(hk:k<n)(hi:i<n)(hj:j<n):ln (bm A k i j)≤134217728:=by
 have o:=mI (K:=1048576) (k+1) (eM A k i j) fun a b _ hb=>by
  unfold eM
  refine h _ _ ?_ ?_ <;> split <;> omega
 have H:=fV (show k+1≤64 by omega) (show 1048576+(k+1)≤1048640 by omega)
 show ln (dt (k+1) (eM A k i j))≤_
 omega
def pr (X:Mx)(ps:List Nat):Mx:=fun i j=>X (ps.getD i 0) j
structure Per (n:Nat)(ps:List Nat):Prop where
 len:ps.length=n
 lt:∀i,i<n→ps.getD i 0<n
 inj:∀i j,i<n→j<n→ps.getD i 0=ps.getD j 0→i=j
structure Inv (n:Nat)(X:Mx)(k:Nat)(ps:List Nat)(Z:Mx)(tu:Bool)(z:Int):Prop where
 per:Per n ps
 ent:∀i j,k≤i→i<n→k≤j→j<n→Z (ps.getD i 0) j=bm (pr X ps) k i j
 last:z=dt k (pr X ps)
 ne:z≠0
 sgn:dt n (pr X ps)=(if tu then-1 else 1)*dt n X
def swp (ps:List Nat)(p k:Nat):List Nat:=(ps.set p (ps.getD k 0)).set k (ps.getD p 0)
theorem oH {p:Nat}(hl:ps.length=n)(hp:p<n)(hk:k<n):(swp ps p k).getD i 0=if i=k then ps.getD p 0 else if i=p then ps.getD k 0 else ps.getD i 0:=by
 unfold swp
 rw [jM (by rw [List.length_set];omega)]
 by_cases h:i=k
 ·rw [if_pos h,if_pos h]
 ·rw [if_neg h,if_neg h,jM (by omega)]
theorem Per.swp (h:Per n ps){p:Nat}(hp:p<n)(hk:k<n):Per n (swp ps p k):=by
 refine⟨by unfold Go.Proofs.YtnpbbknemflpnaaGreat.swp;rw [List.length_set,List.length_set];exact h.len,fun i hi=>?_,fun i j hi hj e=>?_⟩
 ·rw [oH h.len hp hk]
  split
  ·exact h.lt p hp
  ·split
   ·exact h.lt k hk
   ·exact h.lt i hi
 ·rw [oH h.len hp hk,oH h.len hp hk] at e
  by_cases J:i=k
  ·rw [if_pos J] at e
   by_cases H:j=k
   ·omega
   ·rw [if_neg H] at e
    by_cases o:j=p
    ·rw [if_pos o] at e;have:=h.inj _ _ hp hk e;omega
    ·rw [if_neg o] at e;have:=h.inj _ _ hp hj e;omega
  ·rw [if_neg J] at e
   by_cases H:j=k
   ·rw [if_pos H] at e
    by_cases o:i=p
    ·rw [if_pos o] at e;have:=h.inj _ _ hk hp e;omega
    ·rw [if_neg o] at e;have:=h.inj _ _ hi hp e;omega
   ·rw [if_neg H] at e
    by_cases o:i=p
    ·rw [if_pos o] at e
     by_cases I:j=p
     ·omega
     ·rw [if_neg I] at e;have:=h.inj _ _ hk hj e;omega
    ·rw [if_neg o] at e
     by_cases I:j=p
     ·rw [if_pos I] at e;have:=h.inj _ _ hi hk e;omega
     ·rw [if_neg I] at e;exact h.inj _ _ hi hj e
theorem Inv.swp {p:Nat}{X Z:Mx}(h:Inv n X k ps Z tu z)(hk:k<n)(hkp:k≤p)(hp:p<n)(hne:p≠k):Inv n X k (swp ps p k) Z (!tu) z:=by
 have hg:=fun i=>oH (i:=i) h.per.len hp hk
 have e1:∀i j c,bm (pr X (Go.Proofs.YtnpbbknemflpnaaGreat.swp ps p k)) k i j=bm (pr X ps) k (if i=k then p else if i=p then k else i) j∨c=c+1:=fun i j c=>bE (fA fun a b ha hb=>by
  show X ((Go.Proofs.YtnpbbknemflpnaaGreat.swp ps p k).getD (if a<k then a else i) 0) _=X (ps.getD (if a<k then a else if i=k then p else if i=p then k else i) 0) _
  rw [hg]
  congr 1
  by_cases I:a<k
  ·rw [if_pos I,if_neg (by omega),if_neg (by omega),if_pos I]
  ·rw [if_neg I,if_neg I]
   by_cases H:i=k
   ·rw [if_pos H,if_pos H]
   ·rw [if_neg H,if_neg H]
    by_cases o:i=p
    ·rw [if_pos o,if_pos o]
    ·rw [if_neg o,if_neg o])
 have e2:∀i j,bm (pr X (Go.Proofs.YtnpbbknemflpnaaGreat.swp ps p k)) k i j=bm (pr X ps) k (if i=k then p else if i=p then k else i) j:=fun i j=>(e1 i j 0).resolve_right (by omega)
 refine⟨h.per.swp hp hk,fun i j I H o h4=>?_,?_,h.ne,?_⟩
 ·rw [e2,hg]
  by_cases U:i=k
  ·rw [if_pos U,if_pos U];exact h.ent p j hkp hp o h4
  ·rw [if_neg U,if_neg U]
   by_cases J:i=p
   ·rw [if_pos J,if_pos J];exact h.ent k j (aI _) hk o h4
   ·rw [if_neg J,if_neg J];exact h.ent i j I H o h4
 ·rw [h.last]
  refine fA fun a b ha hb=>?_
  show X (ps.getD a 0) b=X ((Go.Proofs.YtnpbbknemflpnaaGreat.swp ps p k).getD a 0) b
  rw [hg,if_neg (by omega),if_neg (by omega)]
 ·have I:=(p8 n).swap (pr X ps) hp hk hne
  have e3:dt n (pr X (Go.Proofs.YtnpbbknemflpnaaGreat.swp ps p k))=dt n (bI (bI (pr X ps) p (pr X ps k)) k (pr X ps p)):=fA fun a b ha hb=>by
   show X ((Go.Proofs.YtnpbbknemflpnaaGreat.swp ps p k).getD a 0) b=_
   rw [hg]
   unfold bI
   by_cases H:a=k
   ·rw [if_pos H,if_pos H];rfl
   ·rw [if_neg H,if_neg H]
    by_cases o:a=p
    ·rw [if_pos o,if_pos o];rfl
    ·rw [if_neg o,if_neg o];rfl
  rw [e3,I,h.sgn]
  cases tu <;> simp
def Mid (n k:Nat)(P:Mx)(ps:List Nat)(Z:Mx)(i j:Nat):Prop:=∀a b,k≤a→a<n→k≤b→b<n→(b=k→i≤a∨a=k)→
 Z (ps.getD a 0) b=if k<a∧k<b∧(a<i∨a=i∧b<j) then bm P (k+1) a b else bm P k a b
theorem Mid.start {X Z:Mx}(h:Inv n X k ps Z tu z):Mid n k (pr X ps) ps Z (k+1) (k+1):=fun a b o I H J _=>by
 rw [h.ent a b o I H J,if_neg (by omega)]
theorem Mid.next {P Z:Mx}(h:Mid n k P ps Z i j)(hp:Per n ps)(hi:k<i)(hin:i<n)(hj:k<j)(hjn:j<n){v:Int}(hv:v=bm P (k+1) i j):Mid n k P ps (ent Z (ps.getD i 0) j v) i (j+1):=fun a b I o U H J=>by
 unfold ent
 by_cases e:a=i∧b=j
 ·obtain⟨rfl,rfl⟩:=e
  rw [if_pos ⟨rfl,rfl⟩,if_pos (by omega)];exact hv
 ·rw [if_neg (fun q=>e ⟨hp.inj a i o hin q.1,q.2⟩),h a b I o U H J]
  by_cases c:k<a∧k<b∧(a<i∨a=i∧b<j)
  ·rw [if_pos c,if_pos (by omega)]
  ·rw [if_neg c,if_neg (by omega)]
theorem Mid.row {P Z:Mx}(h:Mid n k P ps Z i n)(hp:Per n ps)(hi:k<i)(hin:i<n)(v:Int):Mid n k P ps (ent Z (ps.getD i 0) k v) (i+1) (k+1):=fun a b U H h3 J I=>by
 unfold ent
 by_cases e:a=i∧b=k
 ·obtain⟨rfl,rfl⟩:=e
  rcases I rfl with o | o <;> omega
 ·rw [if_neg (fun q=>e ⟨hp.inj a i H hin q.1,q.2⟩),h a b U H h3 J (fun q=>by rcases I q with o | o <;> omega)]
  by_cases c:k<a∧k<b∧(a<i∨a=i∧b<n)
  ·rw [if_pos c,if_pos (by omega)]
  ·rw [if_neg c,if_neg (by omega)]
theorem Mid.old {a:Nat}{P Z:Mx}(h:Mid n k P ps Z i j)(h1:k≤a)(h2:a<n)(h3:k≤b)(h4:b<n)(hc:a=k∨i<a∨a=i∧(b=k∨j≤b)):Z (ps.getD a 0) b=bm P k a b:=by
 rw [h a b h1 h2 h3 h4 (fun _=>by omega),if_neg (by omega)]
theorem Mid.quot {X Z:Mx}(h:Mid n k (pr X ps) ps Z i j)(hz:z=dt k (pr X ps))(hz0:z≠0)(hD:Z (ps.getD k 0) k≠0)(hi:k<i)(hin:i<n)(hj:k<j)(hjn:j<n)(hh:hd=bm (pr X ps) k i k):Z (ps.getD k 0) k*Z (ps.getD i 0) j-hd*Z (ps.getD k 0) j=z*bm (pr X ps) (k+1) i j∧(Z (ps.getD k 0) k*Z (ps.getD i 0) j-hd*Z (ps.getD k 0) j).tdiv z=bm (pr X ps) (k+1) i j:=by
 have o:=h.old (a:=k) (b:=k) (aI _) (by omega) (aI _) (by omega) (bE G)
 have I:=h.old (a:=k) (b:=j) (aI _) (by omega) (by omega) hjn (bE G)
 have H:=h.old (a:=i) (b:=j) (by omega) hin (by omega) hjn (bK (bK ⟨rfl,bK (aI _)⟩))
 rw [o] at hD
 have J:=QI (pr X ps) i j hD
 rw [o,I,H,hh,J,←hz]
 exact⟨rfl,Int.mul_tdiv_cancel_left _ hz0⟩
theorem Inv.next {X Z0 Z:Mx}(h:Inv n X k ps Z0 tu z)(hk:k<n)(hM:Mid n k (pr X ps) ps Z n (k+1))(hD:Z (ps.getD k 0) k≠0):Inv n X (k+1) ps Z tu (Z (ps.getD k 0) k):=by
 have o:=hM.old (a:=k) (b:=k) (aI _) (by omega) (aI _) (by omega) (bE G)
 refine⟨h.per,fun i j _ H _ I=>?_,by rw [o,FC],hD,h.sgn⟩
 rw [hM i j (by omega) H (by omega) I (fun e=>by omega),if_pos (by omega)]
theorem Inv.none {X Z:Mx}(h:Inv n X k ps Z tu z)(hk:k<n)(h0:∀i,k≤i→i<n→Z (ps.getD i 0) k=0):dt n X=0:=by
 have o:=QJ (pr X ps) hk (by rw [←h.last];exact h.ne) (fun i o H=>by rw [←h.ent i k o H (aI _) hk];exact h0 i o H)
 rw [h.sgn] at o
 cases tu
 ·simpa using o
 ·have:(-1:Int)*dt n X=0:=by simpa using o
  omega
theorem Inv.full {X Z:Mx}(h:Inv n X n ps Z tu z):dt n X=if tu then-z else z:=by
 have o:=h.sgn
 rw [←h.last] at o
 cases tu
 ·have:z=1*dt n X:=by simpa using o
  rw [if_neg (by decide)];omega
 ·have:z=(-1:Int)*dt n X:=by simpa using o
  rw [if_pos rfl];omega
theorem Inv.start {X Z:Mx}(hZ:∀i j,i<n→j<n→Z i j=X i j):Inv n X 0 (d7 n) Z false 1:=by
 have hg:∀i,i<n→(d7 n).getD i 0=i:=fun i hi=>by simp [bO,hi]
 refine⟨⟨List.length_range,fun i hi=>by rw [hg i hi];exact hi,fun i j hi hj e=>by rw [hg i hi,hg j hj] at e;exact e⟩,fun i j _ hi _ hj=>?_,rfl,by decide,?_⟩
 ·rw [hg i hi,hZ i j hi hj,QL]
  show _=X ((d7 n).getD i 0) j
  rw [hg i hi]
 ·rw [if_neg (by decide),Int.one_mul]
  exact fA fun i j hi hj=>by show X ((d7 n).getD i 0) j=_;rw [hg i hi]
theorem t7 {X:Mx}(h:Per n ps)(hX:∀i j,i<n→j<n→ln (X i j)≤K):∀i j,i<n→j<n→ln (pr X ps i j)≤K:=fun i _ hi hj=>hX _ _ (h.lt i hi) hj
end
section
theorem I1 {α:Type}{l:List α}(d:α)(h:i<l.length):l.take (i+1)=l.take i++ [l.getD i d]:=by
 rw [List.take_add_one,d8 h,bO,d8 h];rfl
theorem JR (X:Mx)(a b:Nat)(ha:a<n):pr X (d7 n) a b=X a b:=by
 unfold pr;rw [bO,List.getElem?_range ha];rfl
theorem P2 {cc:Nat}{Z Y:Mx}(hp:Per n ps)(hi:i<n){F:Nat→Int}(h:∀a b,a<n→b<cc→Y (ps.getD a 0) b=if a=i∧b<c then F b else Z (ps.getD a 0) b)(hx:x=F c):∀a b,a<n→b<cc→(fun r k=>if r=ps.getD i 0∧k=c then x else Y r k) (ps.getD a 0) b=if a=i∧b<c+1 then F b else Z (ps.getD a 0) b:=fun a b H hb=>by
 simp only
 by_cases e:a=i
 ·subst e
  by_cases I:b=c
  ·subst I;rw [if_pos ⟨rfl,rfl⟩,if_pos ⟨rfl,by omega⟩,hx]
  ·rw [if_neg (fun q=>I q.2),h a b H hb]
   by_cases o:b<c
   ·rw [if_pos ⟨rfl,o⟩,if_pos ⟨rfl,by omega⟩]
   ·rw [if_neg (fun q=>o q.2),if_neg (fun q=>o (by omega))]
 ·rw [if_neg (fun q=>e (hp.inj a i H hi q.1)),h a b H hb,if_neg (fun q=>e q.1),if_neg (fun q=>e q.1)]
end
section
open Go.RowKit
def mk (d:Nat→Int)(n:Nat)(X:Mx)(t:Nat):Mx:=fun i j=>cv d (fun l=>mp n X l i j) t
theorem OH {rcap ncap:Nat}{ra:Nat→Option a6}{rc:Nat→Nat}{Z X:Mx}{nl cl:Nat}(hlb:lb≤w.heap.size)(hA:Apt lb n g RA NA ra)(hB:Bk w g 81 [By RA n rcap,By NA n ncap,.bool tu,.bool sl,By Al nl cl,AI k])(hz:Zr w 0 sl Al nl cl z)(hR:Own w lb 22 1 RA n rcap (ps.map (dW ra rc n)))(hN:Own w lb 3 1 NA n ncap (ns.map gX))(hC:Rcs 17179869184 lb n n ra rc w Z)(hn:n≤64)(hX:∀i j,i<n→j<n→ln (X i j)≤1048576)(hk:k<n)(hI0:Inv n X k ps Z tu z):aR aJ 44 #[a9 g 0,AI k] w (fun e w'=>Bl lb w w'∧((e= .returned (Hs)∧∀i,k≤i→i<n→Z (ps.getD i 0) k=0)∨∃qs Y tu' z',e= .returned (BY)∧zM lb n g RA NA rcap ncap ra rc qs Y tu' z' (k+1) w'∧Inv n X (k+1) qs Y tu' z')):=by
 have qp:=hR.rv.le
 have Ha:=hN.rv.le
 have Fj:ln z≤17179869184:=by rw [hI0.last];exact a7 (mI k _ fun a b _ hb=>t7 hI0.per hX a b (by omega) (by omega)) (by have:=fV (show k≤64 by omega) (show 1048576+k≤1048640 by omega);omega)
 refine bQ Tryz.func44 G (n:=189) G (bq G) (args:= [a9 g 0,AI k]) ?_
 have Gn:=hB.lt
 refine bH [(0,a9 g 0),(1,AI k)] ⟨rfl,rfl,Ht⟩ (sr (mv 1 G (aE (sr (mv 1 G (pf g 0 G (pf g 5 G (aK G G (aQ bV hB G) (mv 1 G (aE (sr (mv 2 G (aS ?_)))))))))))))
 refine aM (aH (bB ?_))
 refine d6 (T:=a0×Nat) (fun⟨wp,p⟩=> [(0,a9 g 0),(1,AI k),(4,Hs),(5,AI k),(6,AI p),(13,a9 g 0),(14,a9 g 0),(15,a9 g 5),(16,AI k),(17,AI k)]) (fun⟨wp,p⟩=>wp) (fun⟨wp,p⟩=>(Bl lb w wp)∧(p≤n)∧(Bk wp g 81 [By RA n rcap,By NA n ncap,.bool tu,.bool sl,By Al nl cl,AI k])∧(Zr wp 0 sl Al nl cl (z))∧(Own wp lb 22 1 RA n rcap (ps.map (dW ra rc n)))∧(Own wp lb 3 1 NA n ncap (ns.map gX))∧(Rcs 17179869184 lb n n ra rc wp Z)∧(k≤p)∧(∀i,k≤i→i<p→Z (ps.getD i 0) k=0)) (fun⟨wp,p⟩=>n-p)
  (⟨w,k⟩:a0×Nat) ⟨(Bl.refl hlb),(by omega),hB,hz,hR,hN,hC,(aI k),(fun i h1 h2=>by omega)⟩ G ⟨rfl,rfl,rfl,rfl,rfl,rfl,rfl,rfl,rfl,rfl,Ht⟩ ?_
 rintro⟨wp,p⟩ ⟨H,_,b_g,z_g_1,o_RAwp,o_NAwp,rc_wp,Hn,Em⟩
 refine d4 [(0,a9 g 0),(1,AI k),(4,Hs),(5,AI k),(6,AI p),(13,a9 g 0),(14,a9 g 0),(15,a9 g 5),(16,AI k),(17,AI k)] wp G ⟨rfl,rfl,rfl,rfl,rfl,rfl,rfl,rfl,rfl,rfl,Ht⟩ (aH (aH ?_))
 by_cases Do:p<n
 ·by_cases jl:Z (ps.getD p 0) k=0
  ·refine aL (mv 2 G (pf g 0 G (pf g 0 G (aK G G (aQ cG b_g G) (pu (v:= AI n) G (aN G G G true (dB (a:=p) (b:=n) G G) (mv 2 G (pf g 0 G (pf g 0 G (aK G G (aQ cG b_g G) (mv 1 G ?_)))))))))))
   obtain⟨Gm,Da,Eb⟩:=(o_RAwp).rowAt (i:=p) (by omega)
   refine aX G G G d9 cV p G Gm Da (aK G G (cP cD Eb) (mv 1 G ?_))
   obtain⟨Gt,Gu,Gl,He,Hc,Fi,wk,Dq,ss⟩:=(rc_wp).at (hI0.per.lt p (by omega)) (show k<n by omega)
   refine aX G G G bM aG.size k G Gt Fi (aK G G (wk _ aB _ _ aG) (bR G G (vs:= [O Gu Gl He Hc]) (by kernel_rfl) (by decide) (f8 ss.zi (ss.le (a7 (ss.ln_le Dq) (by decide)))) ?_))
   rintro _ v3 ⟨_,rfl,r5,e4⟩
   refine bL ?_
   have o:Bl lb w v3:=H.ext e4
   obtain rfl:=r5
   refine aN G G G true (pZ jl) (pu (v:= BY) G (aE (bJ G (bA (aM (bB (aL (mv 1 G (bC G G G ((p+1:Nat):Int) (bW (a:=p) (b:=1) G G) (mv 1 G (aS (cC (cB (⟨v3,p+1⟩:a0×Nat) ⟨o,(by omega),(b_g.ext e4),(z_g_1.ext e4),(o_RAwp.ext e4),(o_NAwp.ext e4),(rc_wp.ext e4),(by omega),(fun i h1 h2=>if h:i<p then Em i h1 h else (show i=p by omega)▸jl)⟩ (show n-(p+1)<n-p by omega) G ⟨rfl,rfl,rfl,rfl,rfl,rfl,rfl,rfl,rfl,rfl,Ht⟩)))))))))))))
  ·refine aL (mv 2 G (pf g 0 G (pf g 0 G (aK G G (aQ cG b_g G) (pu (v:= AI n) G (aN G G G true (dB (a:=p) (b:=n) G G) (mv 2 G (pf g 0 G (pf g 0 G (aK G G (aQ cG b_g G) (mv 1 G ?_)))))))))))
   obtain⟨U,im,on⟩:=(o_RAwp).rowAt (i:=p) (by omega)
   refine aX G G G d9 cV p G U im (aK G G (cP cD on) (mv 1 G ?_))
   obtain⟨cd,cf,bv,bu,bw,Db,zg,Gd,sj⟩:=(rc_wp).at (hI0.per.lt p (by omega)) (show k<n by omega)
   refine aX G G G bM aG.size k G cd Db (aK G G (zg _ aB _ _ aG) (bR G G (vs:= [O cf bv bu bw]) (by kernel_rfl) (by decide) (f8 sj.zi (sj.le (a7 (sj.ln_le Gd) (by decide)))) ?_))
   rintro _ v8 ⟨_,rfl,Hq,e9⟩
   refine bL ?_
   have o:Bl lb w v8:=H.ext e9
   obtain rfl:=Hq
   refine aN G G G false (qA jl) (pu (v:= Hs) G (aE (aY G (cM (cK (cT (cL (aM (aH (sr (mv 2 G (pf g 0 G (pf g 0 G ?_)))))))))))))
   refine aK G G (aQ cG (b_g.ext e9) G) (pu (v:= AI n) G (aN G G G false (kS (a:=p) (b:=n) G G) (aE (aY G (bA (aM (aH (aH ?_))))))))
   by_cases Hj:p≠k
   ·refine aL (mv 2 G (aN G G G true (nU (a:=p) (b:=k) G G) (aE (bJ G (aH (bH [(0,a9 g 0),(1,AI k),(4,Hs),(5,AI k),(6,AI p),(13,a9 g 0),(14,a9 g 0),(15,a9 g 5),(16,AI k),(17,AI k),(18,AI p),(19,a9 g 0),(20,a9 g 0),(21,a9 g 0),(22,By RA n rcap),(23,AI n),(24,BY),(25,BY),(26,a9 g 0),(27,a9 g 0),(28,a9 g 0),(29,By RA n rcap),(30,AI p),(31,.pointer (some U)),(32,By (ra (ps.getD p 0)) n (rc (ps.getD p 0))),(33,AI k),(34,.pointer (some cd)),(35,O cf bv bu bw),(36,AI (bU (Z (ps.getD p 0) k) 0)),(37,Hs),(38,Hs),(41,AI p),(42,a9 g 0),(43,a9 g 0),(44,a9 g 0),(45,By RA n rcap),(46,AI n),(47,Hs),(48,AI p),(49,AI k),(50,BY)] ⟨rfl,rfl,rfl,rfl,rfl,rfl,rfl,rfl,rfl,rfl,rfl,rfl,rfl,rfl,rfl,rfl,rfl,rfl,rfl,rfl,rfl,rfl,rfl,rfl,rfl,rfl,rfl,rfl,rfl,rfl,rfl,rfl,rfl,rfl,rfl,rfl,rfl,rfl,rfl,rfl,rfl,Ht⟩ ?_))))))
    obtain⟨te,hv,ag⟩:∃v,v=v8.drew∧Ext v8 v:=⟨_,rfl,(Ext.refl _).drew⟩
    have I:Bl lb w te:=o.ext ag
    obtain⟨bi,tc,se⟩:=((o_RAwp.ext (e9.t ag))).rowAt (i:=k) (by omega)
    have ii:=(o_RAwp.ext (e9.t ag))
    obtain⟨uz,Bg,ke,aj⟩:=sY ii im (ps.getD k 0)
    have J:Bl lb w uz:=I.updO aj (fun p hp=>(ii.block p hp).1)
    obtain⟨bo,jt,_⟩:=(ke).rowAt (i:=k) (by omega)
    have iq:=ke
    obtain⟨nf,Dy,tp,ak⟩:=sY iq jt (ps.getD p 0)
    have fz:Bl lb w nf:=J.updO ak (fun p hp=>(iq.block p hp).1)
    refine lK cF (w:=te) [a9 g 0,a9 g 0,a9 g 0,By RA n rcap,AI p,a9 g 0,a9 g 0,a9 g 0,By RA n rcap,AI k,a9 g 0,a9 g 0,a9 g 0,By RA n rcap,AI k,.pointer (some bi),By (ra (ps.getD k 0)) n (rc (ps.getD k 0)),a9 g 0,a9 g 0,a9 g 0,By RA n rcap,AI p,.pointer (some U),By (ra (ps.getD p 0)) n (rc (ps.getD p 0)),.pointer (some U),undef,.pointer (some bo),undef] [te,uz,nf] [25,27] [[],[0],[1],[2],[],[],[5],[6],[7],[],[],[10],[11],[12],[],[13,14],[15],[],[17],[18],[19],[],[20,21],[22],[3,4],[16,24],[8,9],[23,26]] [[],[0],[0,1],[0,1,2],[],[],[5],[5,6],[5,6,7],[],[],[10],[10,11],[10,11,12],[],[10,11,12,13,14],[10,11,12,13,14,15],[],[17],[17,18],[17,18,19],[],[17,18,19,20,21],[17,18,19,20,21,22],[0,1,2,3,4,5,6,7,8,10,11,12,13,14,15,16,17,18,19,20,21,22,23],[0,1,2,3,4,5,6,7,8,10,11,12,13,14,15,16,17,18,19,20,21,22,23,24],[0,1,2,3,4,5,6,7,8,9,10,11,12,13,14,15,16,17,18,19,20,21,22,23,24,25],[0,1,2,3,4,5,6,7,8,9,10,11,12,13,14,15,16,17,18,19,20,21,22,23,24,25,26]] [(0,0),(1,0),(2,0),(3,0),(4,0),(5,0),(6,0),(7,0),(8,0),(9,0),(9,1),(10,0),(11,0),(12,0),(13,0),(14,0),(15,0),(16,0),(17,0),(18,0),(19,0),(20,0),(21,0),(22,0),(23,0),(24,0),(25,0),(26,1),(27,1)] G hv ?_ ?_
    ·refine aW _ G G G G G (dJ G) (aW _ G G G G G (eH G) (aW _ G G G G G (eH G) (aW _ G G G G G (cN G (aQ cG (b_g.ext (e9.t ag)) G)) (aW _ G G G G G (dJ G) (aW _ G G G G G (dJ G) (aW _ G G G G G (eH G) (aW _ G G G G G (eH G) (aW _ G G G G G (cN G (aQ cG (b_g.ext (e9.t ag)) G)) (aW _ G G G G G (dJ G) (aW _ G G G G G (dJ G) (aW _ G G G G G (dJ G) (aW _ G G G G G (eH G) (aW _ G G G G G (eH G) ?_)))))))))))))
     refine aW _ G G G G G (cN G (aQ cG (b_g.ext (e9.t ag)) G)) (aW _ G G G G G (dJ G) (aW _ G G G G G (fH G G d9 cV k G bi tc) (aW _ G G G G G (cN G (cP cD se)) (aW _ G G G G G (dJ G) (aW _ G G G G G (eH G) (aW _ G G G G G (eH G) (aW _ G G G G G (cN G (aQ cG (b_g.ext (e9.t ag)) G)) (aW _ G G G G G (dJ G) (aW _ G G G G G (fH G G d9 cV p G U im) (aW _ G G G G G (cN G (cP cD ((e9.t ag).cell on))) (aW _ G G G G G (fH G G d9 cV p G U im) (gU _ G G G G G (gG G G Bg) (aW _ G G G G G (fH G G d9 cV k G bo jt) ?_)))))))))))))
     refine gU _ G G G G G (gG G G Dy) ?_
     exact lJ
    clear hv
    refine kA [(0,a9 g 0),(1,AI k),(4,Hs),(5,AI k),(6,AI p),(13,a9 g 0),(14,a9 g 0),(15,a9 g 5),(16,AI k),(17,AI k),(18,AI p),(19,a9 g 0),(20,a9 g 0),(21,a9 g 0),(22,By RA n rcap),(23,AI n),(24,BY),(25,BY),(26,a9 g 0),(27,a9 g 0),(28,a9 g 0),(29,By RA n rcap),(30,AI p),(31,.pointer (some U)),(32,By (ra (ps.getD p 0)) n (rc (ps.getD p 0))),(33,AI k),(34,.pointer (some cd)),(35,O cf bv bu bw),(36,AI (bU (Z (ps.getD p 0) k) 0)),(37,Hs),(38,Hs),(41,AI p),(42,a9 g 0),(43,a9 g 0),(44,a9 g 0),(45,By RA n rcap),(46,AI n),(47,Hs),(48,AI p),(49,AI k),(50,BY),(51,a9 g 0),(52,a9 g 0),(53,a9 g 0),(54,By RA n rcap),(55,AI p),(56,a9 g 0),(57,a9 g 0),(58,a9 g 0),(59,By RA n rcap),(60,AI k),(61,a9 g 0),(62,a9 g 0),(63,a9 g 0),(64,By RA n rcap),(65,AI k),(66,.pointer (some bi)),(67,By (ra (ps.getD k 0)) n (rc (ps.getD k 0))),(68,a9 g 0),(69,a9 g 0),(70,a9 g 0),(71,By RA n rcap),(72,AI p),(73,.pointer (some U)),(74,By (ra (ps.getD p 0)) n (rc (ps.getD p 0))),(75,.pointer (some U)),(76,.pointer (some bo))] ⟨rfl,rfl,rfl,rfl,rfl,rfl,rfl,rfl,rfl,rfl,rfl,rfl,rfl,rfl,rfl,rfl,rfl,rfl,rfl,rfl,rfl,rfl,rfl,rfl,rfl,rfl,rfl,rfl,rfl,rfl,rfl,rfl,rfl,rfl,rfl,rfl,rfl,rfl,rfl,rfl,rfl,rfl,rfl,rfl,rfl,rfl,rfl,rfl,rfl,rfl,rfl,rfl,rfl,rfl,rfl,rfl,rfl,rfl,rfl,rfl,rfl,rfl,rfl,rfl,rfl,rfl,rfl,Ht⟩ (aM (aH (bH [(0,a9 g 0),(1,AI k),(4,Hs),(5,AI k),(6,AI p),(13,a9 g 0),(14,a9 g 0),(15,a9 g 5),(16,AI k),(17,AI k),(18,AI p),(19,a9 g 0),(20,a9 g 0),(21,a9 g 0),(22,By RA n rcap),(23,AI n),(24,BY),(25,BY),(26,a9 g 0),(27,a9 g 0),(28,a9 g 0),(29,By RA n rcap),(30,AI p),(31,.pointer (some U)),(32,By (ra (ps.getD p 0)) n (rc (ps.getD p 0))),(33,AI k),(34,.pointer (some cd)),(35,O cf bv bu bw),(36,AI (bU (Z (ps.getD p 0) k) 0)),(37,Hs),(38,Hs),(41,AI p),(42,a9 g 0),(43,a9 g 0),(44,a9 g 0),(45,By RA n rcap),(46,AI n),(47,Hs),(48,AI p),(49,AI k),(50,BY),(51,a9 g 0),(52,a9 g 0),(53,a9 g 0),(54,By RA n rcap),(55,AI p),(56,a9 g 0),(57,a9 g 0),(58,a9 g 0),(59,By RA n rcap),(60,AI k),(61,a9 g 0),(62,a9 g 0),(63,a9 g 0),(64,By RA n rcap),(65,AI k),(66,.pointer (some bi)),(67,By (ra (ps.getD k 0)) n (rc (ps.getD k 0))),(68,a9 g 0),(69,a9 g 0),(70,a9 g 0),(71,By RA n rcap),(72,AI p),(73,.pointer (some U)),(74,By (ra (ps.getD p 0)) n (rc (ps.getD p 0))),(75,.pointer (some U)),(76,.pointer (some bo))] ⟨rfl,rfl,rfl,rfl,rfl,rfl,rfl,rfl,rfl,rfl,rfl,rfl,rfl,rfl,rfl,rfl,rfl,rfl,rfl,rfl,rfl,rfl,rfl,rfl,rfl,rfl,rfl,rfl,rfl,rfl,rfl,rfl,rfl,rfl,rfl,rfl,rfl,rfl,rfl,rfl,rfl,rfl,rfl,rfl,rfl,rfl,rfl,rfl,rfl,rfl,rfl,rfl,rfl,rfl,rfl,rfl,rfl,rfl,rfl,rfl,rfl,rfl,rfl,rfl,rfl,rfl,rfl,Ht⟩ ?_)))
    obtain⟨sn,hv,bz⟩:∃v,v=nf.drew∧Ext nf v:=⟨_,rfl,(Ext.refl _).drew⟩
    have Gh:Bl lb w sn:=fz.ext bz
    obtain⟨cz,rq,tn⟩:=(((((o_NAwp.ext (e9.t ag)).updO aj hA.RN).updO ak hA.RN).ext bz)).numAt (i:=k) (by omega)
    obtain⟨ac,gw,sf⟩:=(((((o_NAwp.ext (e9.t ag)).updO aj hA.RN).updO ak hA.RN).ext bz)).numAt (i:=p) (by omega)
    have ij:=((((o_NAwp.ext (e9.t ag)).updO aj hA.RN).updO ak hA.RN).ext bz)
    obtain⟨Ce,Bp,kq,du⟩:=BW ij (by omega) gw (ns.getD k 0)
    have Gr:Bl lb w Ce:=Gh.updO du (fun p hp=>(ij.block p hp).1)
    obtain⟨dq,kj,_⟩:=(kq).numAt (i:=k) (by omega)
    have ip:=kq
    obtain⟨yc,Cn,tk,dw⟩:=BW ip (by omega) kj (ns.getD p 0)
    have Gy:Bl lb w yc:=Gr.updO dw (fun p hp=>(ip.block p hp).1)
    refine lK cF (w:=sn) [a9 g 0,a9 g 0,a9 g 1,By NA n ncap,AI p,a9 g 0,a9 g 0,a9 g 1,By NA n ncap,AI k,a9 g 0,a9 g 0,a9 g 1,By NA n ncap,AI k,.pointer (some cz),AI (ns.getD k 0),a9 g 0,a9 g 0,a9 g 1,By NA n ncap,AI p,.pointer (some ac),AI (ns.getD p 0),.pointer (some ac),undef,.pointer (some dq),undef] [sn,Ce,yc] [25,27] [[],[0],[1],[2],[],[],[5],[6],[7],[],[],[10],[11],[12],[],[13,14],[15],[],[17],[18],[19],[],[20,21],[22],[3,4],[16,24],[8,9],[23,26]] [[],[0],[0,1],[0,1,2],[],[],[5],[5,6],[5,6,7],[],[],[10],[10,11],[10,11,12],[],[10,11,12,13,14],[10,11,12,13,14,15],[],[17],[17,18],[17,18,19],[],[17,18,19,20,21],[17,18,19,20,21,22],[0,1,2,3,4,5,6,7,8,10,11,12,13,14,15,16,17,18,19,20,21,22,23],[0,1,2,3,4,5,6,7,8,10,11,12,13,14,15,16,17,18,19,20,21,22,23,24],[0,1,2,3,4,5,6,7,8,9,10,11,12,13,14,15,16,17,18,19,20,21,22,23,24,25],[0,1,2,3,4,5,6,7,8,9,10,11,12,13,14,15,16,17,18,19,20,21,22,23,24,25,26]] [(0,0),(1,0),(2,0),(3,0),(4,0),(5,0),(6,0),(7,0),(8,0),(9,0),(9,1),(10,0),(11,0),(12,0),(13,0),(14,0),(15,0),(16,0),(17,0),(18,0),(19,0),(20,0),(21,0),(22,0),(23,0),(24,0),(25,0),(26,1),(27,1)] G hv ?_ ?_
    ·refine aW _ G G G G G (dJ G) (aW _ G G G G G (eH G) (aW _ G G G G G (eH G) (aW _ G G G G G (cN G (aQ rB ((((b_g.ext (e9.t ag)).updO aj hA.Rg).updO ak hA.Rg).ext bz) G)) (aW _ G G G G G (dJ G) (aW _ G G G G G (dJ G) (aW _ G G G G G (eH G) (aW _ G G G G G (eH G) (aW _ G G G G G (cN G (aQ rB ((((b_g.ext (e9.t ag)).updO aj hA.Rg).updO ak hA.Rg).ext bz) G)) (aW _ G G G G G (dJ G) (aW _ G G G G G (dJ G) (aW _ G G G G G (dJ G) (aW _ G G G G G (eH G) (aW _ G G G G G (eH G) ?_)))))))))))))
     refine aW _ G G G G G (cN G (aQ rB ((((b_g.ext (e9.t ag)).updO aj hA.Rg).updO ak hA.Rg).ext bz) G)) (aW _ G G G G G (dJ G) (aW _ G G G G G (fH G G Tryz.underlying79 nE k G cz rq) (aW _ G G G G G (cN G (cP bV tn)) (aW _ G G G G G (dJ G) (aW _ G G G G G (eH G) (aW _ G G G G G (eH G) (aW _ G G G G G (cN G (aQ rB ((((b_g.ext (e9.t ag)).updO aj hA.Rg).updO ak hA.Rg).ext bz) G)) (aW _ G G G G G (dJ G) (aW _ G G G G G (fH G G Tryz.underlying79 nE p G ac gw) (aW _ G G G G G (cN G (cP bV sf)) (aW _ G G G G G (fH G G Tryz.underlying79 nE p G ac gw) (gU _ G G G G G (gG G G Bp) (aW _ G G G G G (fH G G Tryz.underlying79 nE k G dq kj) ?_)))))))))))))
     refine gU _ G G G G G (gG G G Cn) ?_
     exact lJ
    clear hv
    refine kA [(0,a9 g 0),(1,AI k),(4,Hs),(5,AI k),(6,AI p),(13,a9 g 0),(14,a9 g 0),(15,a9 g 5),(16,AI k),(17,AI k),(18,AI p),(19,a9 g 0),(20,a9 g 0),(21,a9 g 0),(22,By RA n rcap),(23,AI n),(24,BY),(25,BY),(26,a9 g 0),(27,a9 g 0),(28,a9 g 0),(29,By RA n rcap),(30,AI p),(31,.pointer (some U)),(32,By (ra (ps.getD p 0)) n (rc (ps.getD p 0))),(33,AI k),(34,.pointer (some cd)),(35,O cf bv bu bw),(36,AI (bU (Z (ps.getD p 0) k) 0)),(37,Hs),(38,Hs),(41,AI p),(42,a9 g 0),(43,a9 g 0),(44,a9 g 0),(45,By RA n rcap),(46,AI n),(47,Hs),(48,AI p),(49,AI k),(50,BY),(51,a9 g 0),(52,a9 g 0),(53,a9 g 0),(54,By RA n rcap),(55,AI p),(56,a9 g 0),(57,a9 g 0),(58,a9 g 0),(59,By RA n rcap),(60,AI k),(61,a9 g 0),(62,a9 g 0),(63,a9 g 0),(64,By RA n rcap),(65,AI k),(66,.pointer (some bi)),(67,By (ra (ps.getD k 0)) n (rc (ps.getD k 0))),(68,a9 g 0),(69,a9 g 0),(70,a9 g 0),(71,By RA n rcap),(72,AI p),(73,.pointer (some U)),(74,By (ra (ps.getD p 0)) n (rc (ps.getD p 0))),(75,.pointer (some U)),(76,.pointer (some bo)),(77,a9 g 0),(78,a9 g 0),(79,a9 g 1),(80,By NA n ncap),(81,AI p),(82,a9 g 0),(83,a9 g 0),(84,a9 g 1),(85,By NA n ncap),(86,AI k),(87,a9 g 0),(88,a9 g 0),(89,a9 g 1),(90,By NA n ncap),(91,AI k),(92,.pointer (some cz)),(93,AI (ns.getD k 0)),(94,a9 g 0),(95,a9 g 0),(96,a9 g 1),(97,By NA n ncap),(98,AI p),(99,.pointer (some ac)),(100,AI (ns.getD p 0)),(101,.pointer (some ac)),(102,.pointer (some dq))] ⟨rfl,rfl,rfl,rfl,rfl,rfl,rfl,rfl,rfl,rfl,rfl,rfl,rfl,rfl,rfl,rfl,rfl,rfl,rfl,rfl,rfl,rfl,rfl,rfl,rfl,rfl,rfl,rfl,rfl,rfl,rfl,rfl,rfl,rfl,rfl,rfl,rfl,rfl,rfl,rfl,rfl,rfl,rfl,rfl,rfl,rfl,rfl,rfl,rfl,rfl,rfl,rfl,rfl,rfl,rfl,rfl,rfl,rfl,rfl,rfl,rfl,rfl,rfl,rfl,rfl,rfl,rfl,rfl,rfl,rfl,rfl,rfl,rfl,rfl,rfl,rfl,rfl,rfl,rfl,rfl,rfl,rfl,rfl,rfl,rfl,rfl,rfl,rfl,rfl,rfl,rfl,rfl,rfl,Ht⟩ (aM (aL (mv 2 G (pf g 0 G (pf g 2 G (aK G G (aQ fU ((((((b_g.ext (e9.t ag)).updO aj hA.Rg).updO ak hA.Rg).ext bz).updO du hA.Ng).updO dw hA.Ng) G) (pu (v:= .bool (!tu)) G (pf g 0 G (pf g 2 G ?_)))))))))
    have mx:=((((((b_g.ext (e9.t ag)).updO aj hA.Rg).updO ak hA.Rg).ext bz).updO du hA.Ng).updO dw hA.Ng)
    refine jC G G G I9 G mx (bq G) G [By RA n rcap,By NA n ncap,.bool (!tu),.bool sl,By Al nl cl,AI k] G fun uh jw mn _=>?_
    have Gi:Bl lb w uh:=Gy.upd mn hA.lg
    refine aE (aH ?_)
    obtain⟨qs,gk⟩:∃qs,qs=swp ps p k:=⟨_,rfl⟩
    have hI:Inv n X k qs Z (!tu) z:=by rw [gk];exact hI0.swp (by omega) Hn Do Hj
    have hD:Z (qs.getD k 0) k≠0:=by rw [gk,oH hI0.per.len Do (by omega),if_pos rfl];exact jl
    have py:Own uh lb 22 1 RA n rcap (qs.map (dW ra rc n)):=by rw [gk];exact ((((tp.ext bz).updO du (fun p q hp hq e=>hA.RN q p hq hp e.symm)).updO dw (fun p q hp hq e=>hA.RN q p hq hp e.symm)).upd mn hA.Rg)
    have ks:bm (pr X qs) k k k≠0:=by rw [←hI.ent k k (aI _) (by omega) (aI _) (by omega)];exact hD
    refine aL (mv 1 G (pf g 0 G (pf g 0 G (aK G G (aQ cG jw G) (mv 1 G ?_)))))
    obtain⟨fg,uw,ru⟩:=(py).rowAt (i:=k) (by omega)
    refine aX G G G d9 cV k G fg uw (aK G G (cP cD ru) (mv 1 G (aE (aH (sr (mv 1 G (pf g 0 G (pf g 0 G (aK G G (aQ cG jw G) (mv 1 G (bC G G G ((k+1:Nat):Int) (bW (a:=k) (b:=1) G G) (vM G G d9 cV (lo:=k+1) (hi:=n) G G (by omega) qp (v:= .slice (if rcap=k+1 then RA else RA.map (·.add ((k+1)*1))) (n-(k+1)) (rcap-(k+1))) G (by decide) (pu (v:= AI ((n-(k+1):Nat):Int)) G ?_)))))))))))))
    refine mv 1 G (aE (bB ?_))
    refine d6 (T:=a0×Nat×Mx) (fun⟨wt,t,Y⟩=> [(0,a9 g 0),(1,AI k),(4,Hs),(5,AI k),(6,AI p),(7,By (ra (qs.getD k 0)) n (rc (qs.getD k 0))),(13,a9 g 0),(14,a9 g 0),(15,a9 g 5),(16,AI k),(17,AI k),(18,AI p),(19,a9 g 0),(20,a9 g 0),(21,a9 g 0),(22,By RA n rcap),(23,AI n),(24,BY),(25,BY),(26,a9 g 0),(27,a9 g 0),(28,a9 g 0),(29,By RA n rcap),(30,AI p),(31,.pointer (some U)),(32,By (ra (ps.getD p 0)) n (rc (ps.getD p 0))),(33,AI k),(34,.pointer (some cd)),(35,O cf bv bu bw),(36,AI (bU (Z (ps.getD p 0) k) 0)),(37,Hs),(38,Hs),(41,AI p),(42,a9 g 0),(43,a9 g 0),(44,a9 g 0),(45,By RA n rcap),(46,AI n),(47,Hs),(48,AI p),(49,AI k),(50,BY),(51,a9 g 0),(52,a9 g 0),(53,a9 g 0),(54,By RA n rcap),(55,AI p),(56,a9 g 0),(57,a9 g 0),(58,a9 g 0),(59,By RA n rcap),(60,AI k),(61,a9 g 0),(62,a9 g 0),(63,a9 g 0),(64,By RA n rcap),(65,AI k),(66,.pointer (some bi)),(67,By (ra (ps.getD k 0)) n (rc (ps.getD k 0))),(68,a9 g 0),(69,a9 g 0),(70,a9 g 0),(71,By RA n rcap),(72,AI p),(73,.pointer (some U)),(74,By (ra (ps.getD p 0)) n (rc (ps.getD p 0))),(75,.pointer (some U)),(76,.pointer (some bo)),(77,a9 g 0),(78,a9 g 0),(79,a9 g 1),(80,By NA n ncap),(81,AI p),(82,a9 g 0),(83,a9 g 0),(84,a9 g 1),(85,By NA n ncap),(86,AI k),(87,a9 g 0),(88,a9 g 0),(89,a9 g 1),(90,By NA n ncap),(91,AI k),(92,.pointer (some cz)),(93,AI (ns.getD k 0)),(94,a9 g 0),(95,a9 g 0),(96,a9 g 1),(97,By NA n ncap),(98,AI p),(99,.pointer (some ac)),(100,AI (ns.getD p 0)),(101,.pointer (some ac)),(102,.pointer (some dq)),(103,a9 g 0),(104,a9 g 0),(105,a9 g 0),(106,a9 g 2),(107,.bool tu),(108,.bool (!tu)),(109,a9 g 0),(110,a9 g 2),(111,a9 g 0),(112,a9 g 0),(113,a9 g 0),(114,By RA n rcap),(115,AI k),(116,.pointer (some fg)),(117,By (ra (qs.getD k 0)) n (rc (qs.getD k 0))),(118,a9 g 0),(119,a9 g 0),(120,a9 g 0),(121,By RA n rcap),(122,AI k),(123,AI ((k+1:Nat):Int)),(124,.slice (if rcap=k+1 then RA else RA.map (·.add ((k+1)*1))) (n-(k+1)) (rcap-(k+1))),(125,AI ((n-(k+1):Nat):Int)),(126,AI t)]) (fun⟨wt,t,Y⟩=>wt) (fun⟨wt,t,Y⟩=>(Bl lb w wt)∧(t≤n-(k+1))∧(Bk wt g 81 [By RA n rcap,By NA n ncap,.bool (!tu),.bool sl,By Al nl cl,AI k])∧(Zr wt 0 sl Al nl cl (z))∧(Own wt lb 22 1 RA n rcap (qs.map (dW ra rc n)))∧(Own wt lb 3 1 NA n ncap (((ns.set p (ns.getD k 0)).set k (ns.getD p 0)).map gX))∧(Rcs 17179869184 lb n n ra rc wt Y)∧(Mid n k (pr X qs) qs Y (k+1+t) (k+1))) (fun⟨wt,t,Y⟩=>(n-(k+1))-t)
     (⟨uh,0,Z⟩:a0×Nat×Mx) ⟨Gi,(by omega),jw,(((((((z_g_1.ext (e9.t ag)).updOT ii aj).updOT iq ak).ext bz).updOT ij du).updOT ip dw).updT mx mn),py,(tk.upd mn hA.Ng),(((((((rc_wp.ext (e9.t ag)).updQ ii aj hA.Rr).updQ iq ak hA.Rr).ext bz).updQ ij du hA.Nr).updQ ip dw hA.Nr).updT mx mn hA.rg),(Mid.start hI)⟩ G ⟨rfl,rfl,rfl,rfl,rfl,rfl,rfl,rfl,rfl,rfl,rfl,rfl,rfl,rfl,rfl,rfl,rfl,rfl,rfl,rfl,rfl,rfl,rfl,rfl,rfl,rfl,rfl,rfl,rfl,rfl,rfl,rfl,rfl,rfl,rfl,rfl,rfl,rfl,rfl,rfl,rfl,rfl,rfl,rfl,rfl,rfl,rfl,rfl,rfl,rfl,rfl,rfl,rfl,rfl,rfl,rfl,rfl,rfl,rfl,rfl,rfl,rfl,rfl,rfl,rfl,rfl,rfl,rfl,rfl,rfl,rfl,rfl,rfl,rfl,rfl,rfl,rfl,rfl,rfl,rfl,rfl,rfl,rfl,rfl,rfl,rfl,rfl,rfl,rfl,rfl,rfl,rfl,rfl,rfl,rfl,rfl,rfl,rfl,rfl,rfl,rfl,rfl,rfl,rfl,rfl,rfl,rfl,rfl,rfl,rfl,rfl,rfl,rfl,rfl,rfl,rfl,rfl,rfl,Ht⟩ ?_
    rintro⟨wt,t,Y⟩ ⟨H,xy,b_g,z_g_1,o_RAwt,o_NAwt,rc_wt,hM⟩
    refine d4 [(0,a9 g 0),(1,AI k),(4,Hs),(5,AI k),(6,AI p),(7,By (ra (qs.getD k 0)) n (rc (qs.getD k 0))),(13,a9 g 0),(14,a9 g 0),(15,a9 g 5),(16,AI k),(17,AI k),(18,AI p),(19,a9 g 0),(20,a9 g 0),(21,a9 g 0),(22,By RA n rcap),(23,AI n),(24,BY),(25,BY),(26,a9 g 0),(27,a9 g 0),(28,a9 g 0),(29,By RA n rcap),(30,AI p),(31,.pointer (some U)),(32,By (ra (ps.getD p 0)) n (rc (ps.getD p 0))),(33,AI k),(34,.pointer (some cd)),(35,O cf bv bu bw),(36,AI (bU (Z (ps.getD p 0) k) 0)),(37,Hs),(38,Hs),(41,AI p),(42,a9 g 0),(43,a9 g 0),(44,a9 g 0),(45,By RA n rcap),(46,AI n),(47,Hs),(48,AI p),(49,AI k),(50,BY),(51,a9 g 0),(52,a9 g 0),(53,a9 g 0),(54,By RA n rcap),(55,AI p),(56,a9 g 0),(57,a9 g 0),(58,a9 g 0),(59,By RA n rcap),(60,AI k),(61,a9 g 0),(62,a9 g 0),(63,a9 g 0),(64,By RA n rcap),(65,AI k),(66,.pointer (some bi)),(67,By (ra (ps.getD k 0)) n (rc (ps.getD k 0))),(68,a9 g 0),(69,a9 g 0),(70,a9 g 0),(71,By RA n rcap),(72,AI p),(73,.pointer (some U)),(74,By (ra (ps.getD p 0)) n (rc (ps.getD p 0))),(75,.pointer (some U)),(76,.pointer (some bo)),(77,a9 g 0),(78,a9 g 0),(79,a9 g 1),(80,By NA n ncap),(81,AI p),(82,a9 g 0),(83,a9 g 0),(84,a9 g 1),(85,By NA n ncap),(86,AI k),(87,a9 g 0),(88,a9 g 0),(89,a9 g 1),(90,By NA n ncap),(91,AI k),(92,.pointer (some cz)),(93,AI (ns.getD k 0)),(94,a9 g 0),(95,a9 g 0),(96,a9 g 1),(97,By NA n ncap),(98,AI p),(99,.pointer (some ac)),(100,AI (ns.getD p 0)),(101,.pointer (some ac)),(102,.pointer (some dq)),(103,a9 g 0),(104,a9 g 0),(105,a9 g 0),(106,a9 g 2),(107,.bool tu),(108,.bool (!tu)),(109,a9 g 0),(110,a9 g 2),(111,a9 g 0),(112,a9 g 0),(113,a9 g 0),(114,By RA n rcap),(115,AI k),(116,.pointer (some fg)),(117,By (ra (qs.getD k 0)) n (rc (qs.getD k 0))),(118,a9 g 0),(119,a9 g 0),(120,a9 g 0),(121,By RA n rcap),(122,AI k),(123,AI ((k+1:Nat):Int)),(124,.slice (if rcap=k+1 then RA else RA.map (·.add ((k+1)*1))) (n-(k+1)) (rcap-(k+1))),(125,AI ((n-(k+1):Nat):Int)),(126,AI t)] wt G ⟨rfl,rfl,rfl,rfl,rfl,rfl,rfl,rfl,rfl,rfl,rfl,rfl,rfl,rfl,rfl,rfl,rfl,rfl,rfl,rfl,rfl,rfl,rfl,rfl,rfl,rfl,rfl,rfl,rfl,rfl,rfl,rfl,rfl,rfl,rfl,rfl,rfl,rfl,rfl,rfl,rfl,rfl,rfl,rfl,rfl,rfl,rfl,rfl,rfl,rfl,rfl,rfl,rfl,rfl,rfl,rfl,rfl,rfl,rfl,rfl,rfl,rfl,rfl,rfl,rfl,rfl,rfl,rfl,rfl,rfl,rfl,rfl,rfl,rfl,rfl,rfl,rfl,rfl,rfl,rfl,rfl,rfl,rfl,rfl,rfl,rfl,rfl,rfl,rfl,rfl,rfl,rfl,rfl,rfl,rfl,rfl,rfl,rfl,rfl,rfl,rfl,rfl,rfl,rfl,rfl,rfl,rfl,rfl,rfl,rfl,rfl,rfl,rfl,rfl,rfl,rfl,rfl,rfl,Ht⟩ (aH ?_)
    by_cases Gk:t<n-(k+1)
    ·refine aL (aN G G G true (dB (a:=t) (b:=n-(k+1)) G G) (aE (aH (bJ G (bA (aM (aH (bB (sr ?_)))))))))
     obtain⟨my,ul,ta⟩:=(o_RAwt).rowTail (lo:=k+1) (i:=t) (by omega)
     refine aX G G G d9 cV t G my ul (aK G G (cP cD ta) (mv 1 G (aE (sr (mv 2 G ?_)))))
     obtain⟨ku,cj,cg,cm,co,sc,tx,gg,iw⟩:=(rc_wt).at (hI.per.lt (k+1+t) (by omega)) (show k<n by omega)
     refine aX G G G bM aG.size k G ku sc (aK G G (tx _ aB _ _ aG) (dM G (z:= .agg #[F0,S0]) (vs:= [F0,S0]) (fun _=>by kernel_rfl) G fun ew Gz nb=>?_))
     have je:=nb.bk
     have xn:w.heap.size≤ew:=by rw [←nb.at_];exact H.size
     have Ie:g<ew:=by rw [←nb.at_];exact b_g.lt
     have Ca:∀p:a6,RA=some p→p.block≠ew:=fun p hp=>by have:=((o_RAwt).block p hp).2;have:=nb.at_;omega
     have ve:∀p:a6,NA=some p→p.block≠ew:=fun p hp=>by have:=((o_NAwt).block p hp).2;have:=nb.at_;omega
     have qm:∀r,r<n→∀p:a6,ra r=some p→p.block≠ew:=fun r hr p hp=>by have:=((rc_wt).lt r hr p hp).2;have:=nb.at_;omega
     have fy:=nb.ext
     clear nb
     have o:Bl lb w Gz:=H.ext fy
     refine fC G G G aG G je (bq G) G (a4 cj cg cm co) G fun wm Ck gy _=>?_
     have I:Bl lb w wm:=o.upd gy (a7 hlb xn)
     refine aE (aH (sr (mv 1 G (bC G G G ((k+1:Nat):Int) (bW (a:=k) (b:=1) G G) (mv 1 G (aE (bB ?_)))))))
     refine d6 (T:=a0×Nat×Mx) (fun⟨wj,j,V⟩=> [(0,a9 g 0),(1,AI k),(4,Hs),(5,AI k),(6,AI p),(7,By (ra (qs.getD k 0)) n (rc (qs.getD k 0))),(9,By (ra (qs.getD (k+1+t) 0)) n (rc (qs.getD (k+1+t) 0))),(10,a9 ew 0),(11,AI j),(13,a9 g 0),(14,a9 g 0),(15,a9 g 5),(16,AI k),(17,AI k),(18,AI p),(19,a9 g 0),(20,a9 g 0),(21,a9 g 0),(22,By RA n rcap),(23,AI n),(24,BY),(25,BY),(26,a9 g 0),(27,a9 g 0),(28,a9 g 0),(29,By RA n rcap),(30,AI p),(31,.pointer (some U)),(32,By (ra (ps.getD p 0)) n (rc (ps.getD p 0))),(33,AI k),(34,.pointer (some cd)),(35,O cf bv bu bw),(36,AI (bU (Z (ps.getD p 0) k) 0)),(37,Hs),(38,Hs),(41,AI p),(42,a9 g 0),(43,a9 g 0),(44,a9 g 0),(45,By RA n rcap),(46,AI n),(47,Hs),(48,AI p),(49,AI k),(50,BY),(51,a9 g 0),(52,a9 g 0),(53,a9 g 0),(54,By RA n rcap),(55,AI p),(56,a9 g 0),(57,a9 g 0),(58,a9 g 0),(59,By RA n rcap),(60,AI k),(61,a9 g 0),(62,a9 g 0),(63,a9 g 0),(64,By RA n rcap),(65,AI k),(66,.pointer (some bi)),(67,By (ra (ps.getD k 0)) n (rc (ps.getD k 0))),(68,a9 g 0),(69,a9 g 0),(70,a9 g 0),(71,By RA n rcap),(72,AI p),(73,.pointer (some U)),(74,By (ra (ps.getD p 0)) n (rc (ps.getD p 0))),(75,.pointer (some U)),(76,.pointer (some bo)),(77,a9 g 0),(78,a9 g 0),(79,a9 g 1),(80,By NA n ncap),(81,AI p),(82,a9 g 0),(83,a9 g 0),(84,a9 g 1),(85,By NA n ncap),(86,AI k),(87,a9 g 0),(88,a9 g 0),(89,a9 g 1),(90,By NA n ncap),(91,AI k),(92,.pointer (some cz)),(93,AI (ns.getD k 0)),(94,a9 g 0),(95,a9 g 0),(96,a9 g 1),(97,By NA n ncap),(98,AI p),(99,.pointer (some ac)),(100,AI (ns.getD p 0)),(101,.pointer (some ac)),(102,.pointer (some dq)),(103,a9 g 0),(104,a9 g 0),(105,a9 g 0),(106,a9 g 2),(107,.bool tu),(108,.bool (!tu)),(109,a9 g 0),(110,a9 g 2),(111,a9 g 0),(112,a9 g 0),(113,a9 g 0),(114,By RA n rcap),(115,AI k),(116,.pointer (some fg)),(117,By (ra (qs.getD k 0)) n (rc (qs.getD k 0))),(118,a9 g 0),(119,a9 g 0),(120,a9 g 0),(121,By RA n rcap),(122,AI k),(123,AI ((k+1:Nat):Int)),(124,.slice (if rcap=k+1 then RA else RA.map (·.add ((k+1)*1))) (n-(k+1)) (rcap-(k+1))),(125,AI ((n-(k+1):Nat):Int)),(126,AI t),(127,BY),(128,.pointer (some my)),(129,By (ra (qs.getD (k+1+t) 0)) n (rc (qs.getD (k+1+t) 0))),(130,By (ra (qs.getD (k+1+t) 0)) n (rc (qs.getD (k+1+t) 0))),(131,AI k),(132,.pointer (some ku)),(133,O cj cg cm co),(134,AI k),(135,AI ((k+1:Nat):Int))]) (fun⟨wj,j,V⟩=>wj) (fun⟨wj,j,V⟩=>(Bl lb w wj)∧(j≤n)∧(Bk wj g 81 [By RA n rcap,By NA n ncap,.bool (!tu),.bool sl,By Al nl cl,AI k])∧(Zr wj 0 sl Al nl cl (z))∧(Bk wj ew 41 (a4 cj cg cm co))∧(Zr wj 0 cj cg cm co (Y (qs.getD (k+1+t) 0) k))∧(Own wj lb 22 1 RA n rcap (qs.map (dW ra rc n)))∧(Own wj lb 3 1 NA n ncap (((ns.set p (ns.getD k 0)).set k (ns.getD p 0)).map gX))∧(Rcs 17179869184 lb n n ra rc wj V)∧(k<j)∧(Mid n k (pr X qs) qs V (k+1+t) j)) (fun⟨wj,j,V⟩=>n-j)
      (⟨wm,(k+1),Y⟩:a0×Nat×Mx) ⟨I,(by omega),((b_g.ext fy).vN gy),((z_g_1.ext fy).updT je gy),Ck,((iw.ext fy).updT je gy),((o_RAwt.ext fy).upd gy Ca),((o_NAwt.ext fy).upd gy ve),((rc_wt.ext fy).updT je gy qm),(by omega),hM⟩ G ⟨rfl,rfl,rfl,rfl,rfl,rfl,rfl,rfl,rfl,rfl,rfl,rfl,rfl,rfl,rfl,rfl,rfl,rfl,rfl,rfl,rfl,rfl,rfl,rfl,rfl,rfl,rfl,rfl,rfl,rfl,rfl,rfl,rfl,rfl,rfl,rfl,rfl,rfl,rfl,rfl,rfl,rfl,rfl,rfl,rfl,rfl,rfl,rfl,rfl,rfl,rfl,rfl,rfl,rfl,rfl,rfl,rfl,rfl,rfl,rfl,rfl,rfl,rfl,rfl,rfl,rfl,rfl,rfl,rfl,rfl,rfl,rfl,rfl,rfl,rfl,rfl,rfl,rfl,rfl,rfl,rfl,rfl,rfl,rfl,rfl,rfl,rfl,rfl,rfl,rfl,rfl,rfl,rfl,rfl,rfl,rfl,rfl,rfl,rfl,rfl,rfl,rfl,rfl,rfl,rfl,rfl,rfl,rfl,rfl,rfl,rfl,rfl,rfl,rfl,rfl,rfl,rfl,rfl,rfl,rfl,rfl,rfl,rfl,rfl,rfl,rfl,rfl,rfl,rfl,rfl,Ht⟩ ?_
     rintro⟨wj,j,V⟩ ⟨H,vo,b_g,z_g_1,b_g49,z_g49,o_RAwj,o_NAwj,rc_wj,kg,ez⟩
     refine d4 [(0,a9 g 0),(1,AI k),(4,Hs),(5,AI k),(6,AI p),(7,By (ra (qs.getD k 0)) n (rc (qs.getD k 0))),(9,By (ra (qs.getD (k+1+t) 0)) n (rc (qs.getD (k+1+t) 0))),(10,a9 ew 0),(11,AI j),(13,a9 g 0),(14,a9 g 0),(15,a9 g 5),(16,AI k),(17,AI k),(18,AI p),(19,a9 g 0),(20,a9 g 0),(21,a9 g 0),(22,By RA n rcap),(23,AI n),(24,BY),(25,BY),(26,a9 g 0),(27,a9 g 0),(28,a9 g 0),(29,By RA n rcap),(30,AI p),(31,.pointer (some U)),(32,By (ra (ps.getD p 0)) n (rc (ps.getD p 0))),(33,AI k),(34,.pointer (some cd)),(35,O cf bv bu bw),(36,AI (bU (Z (ps.getD p 0) k) 0)),(37,Hs),(38,Hs),(41,AI p),(42,a9 g 0),(43,a9 g 0),(44,a9 g 0),(45,By RA n rcap),(46,AI n),(47,Hs),(48,AI p),(49,AI k),(50,BY),(51,a9 g 0),(52,a9 g 0),(53,a9 g 0),(54,By RA n rcap),(55,AI p),(56,a9 g 0),(57,a9 g 0),(58,a9 g 0),(59,By RA n rcap),(60,AI k),(61,a9 g 0),(62,a9 g 0),(63,a9 g 0),(64,By RA n rcap),(65,AI k),(66,.pointer (some bi)),(67,By (ra (ps.getD k 0)) n (rc (ps.getD k 0))),(68,a9 g 0),(69,a9 g 0),(70,a9 g 0),(71,By RA n rcap),(72,AI p),(73,.pointer (some U)),(74,By (ra (ps.getD p 0)) n (rc (ps.getD p 0))),(75,.pointer (some U)),(76,.pointer (some bo)),(77,a9 g 0),(78,a9 g 0),(79,a9 g 1),(80,By NA n ncap),(81,AI p),(82,a9 g 0),(83,a9 g 0),(84,a9 g 1),(85,By NA n ncap),(86,AI k),(87,a9 g 0),(88,a9 g 0),(89,a9 g 1),(90,By NA n ncap),(91,AI k),(92,.pointer (some cz)),(93,AI (ns.getD k 0)),(94,a9 g 0),(95,a9 g 0),(96,a9 g 1),(97,By NA n ncap),(98,AI p),(99,.pointer (some ac)),(100,AI (ns.getD p 0)),(101,.pointer (some ac)),(102,.pointer (some dq)),(103,a9 g 0),(104,a9 g 0),(105,a9 g 0),(106,a9 g 2),(107,.bool tu),(108,.bool (!tu)),(109,a9 g 0),(110,a9 g 2),(111,a9 g 0),(112,a9 g 0),(113,a9 g 0),(114,By RA n rcap),(115,AI k),(116,.pointer (some fg)),(117,By (ra (qs.getD k 0)) n (rc (qs.getD k 0))),(118,a9 g 0),(119,a9 g 0),(120,a9 g 0),(121,By RA n rcap),(122,AI k),(123,AI ((k+1:Nat):Int)),(124,.slice (if rcap=k+1 then RA else RA.map (·.add ((k+1)*1))) (n-(k+1)) (rcap-(k+1))),(125,AI ((n-(k+1):Nat):Int)),(126,AI t),(127,BY),(128,.pointer (some my)),(129,By (ra (qs.getD (k+1+t) 0)) n (rc (qs.getD (k+1+t) 0))),(130,By (ra (qs.getD (k+1+t) 0)) n (rc (qs.getD (k+1+t) 0))),(131,AI k),(132,.pointer (some ku)),(133,O cj cg cm co),(134,AI k),(135,AI ((k+1:Nat):Int))] wj G ⟨rfl,rfl,rfl,rfl,rfl,rfl,rfl,rfl,rfl,rfl,rfl,rfl,rfl,rfl,rfl,rfl,rfl,rfl,rfl,rfl,rfl,rfl,rfl,rfl,rfl,rfl,rfl,rfl,rfl,rfl,rfl,rfl,rfl,rfl,rfl,rfl,rfl,rfl,rfl,rfl,rfl,rfl,rfl,rfl,rfl,rfl,rfl,rfl,rfl,rfl,rfl,rfl,rfl,rfl,rfl,rfl,rfl,rfl,rfl,rfl,rfl,rfl,rfl,rfl,rfl,rfl,rfl,rfl,rfl,rfl,rfl,rfl,rfl,rfl,rfl,rfl,rfl,rfl,rfl,rfl,rfl,rfl,rfl,rfl,rfl,rfl,rfl,rfl,rfl,rfl,rfl,rfl,rfl,rfl,rfl,rfl,rfl,rfl,rfl,rfl,rfl,rfl,rfl,rfl,rfl,rfl,rfl,rfl,rfl,rfl,rfl,rfl,rfl,rfl,rfl,rfl,rfl,rfl,rfl,rfl,rfl,rfl,rfl,rfl,rfl,rfl,rfl,rfl,rfl,rfl,Ht⟩ (aH (aH ?_))
     by_cases gx:j<n
     ·refine aL (mv 2 G (pu (v:= AI n) G (aN G G G true (dB (a:=j) (b:=n) G G) (aE (bJ G (bA (aM (aH (bB (aH ?_))))))))))
      obtain⟨qr,om,ox,qe,pp,ug,tz,gt,fo⟩:=(rc_wj).at (hI.per.lt k (by omega)) (show k<n by omega)
      obtain⟨qk,ot,qx,qv,pk,uf,si,gj,fv⟩:=(rc_wj).at (hI.per.lt (k+1+t) (by omega)) (show j<n by omega)
      have ue:ln ((V (qs.getD k 0) k)*(V (qs.getD (k+1+t) 0) j))≤34359738368:=a7 (eX (fo.ln_le gt) (fv.ln_le gj)) (by decide)
      obtain⟨po,pb,qz,qq,qn,ud,uk,fx,fh⟩:=(rc_wj).at (hI.per.lt k (by omega)) (show j<n by omega)
      have uq:ln ((Y (qs.getD (k+1+t) 0) k)*(V (qs.getD k 0) j))≤34359738368:=a7 (eX (iw.ln_le gg) (fh.ln_le fx)) (by decide)
      have Hp:ln (((V (qs.getD k 0) k)*(V (qs.getD (k+1+t) 0) j))-((Y (qs.getD (k+1+t) 0) k)*(V (qs.getD k 0) j)))≤34359738369:=a7 (i7 ue uq) (by decide)
      refine dP cF 17 [] [Is (By (ra (qs.getD k 0)) n (rc (qs.getD k 0))),Is (AI k),Is (.pointer (some qr)),Is (O om ox qe pp),Is (By (ra (qs.getD (k+1+t) 0)) n (rc (qs.getD (k+1+t) 0))),Is (AI j),Is (.pointer (some qk)),Is (O ot qx qv pk),ZR w.heap.size ((V (qs.getD k 0) k)*(V (qs.getD (k+1+t) 0) j)),Is (O cj cg cm co),Is (By (ra (qs.getD k 0)) n (rc (qs.getD k 0))),Is (AI j),Is (.pointer (some po)),Is (O pb qz qq qn),ZR w.heap.size ((Y (qs.getD (k+1+t) 0) k)*(V (qs.getD k 0) j)),ZR w.heap.size (((V (qs.getD k 0) k)*(V (qs.getD (k+1+t) 0) j))-((Y (qs.getD (k+1+t) 0) k)*(V (qs.getD k 0) j))),PR wj.heap.size 41 [F0,S0]] [[],[],[0,1],[2],[],[],[4,5],[6],[3,7],[],[],[],[10,11],[12],[9,13],[8,14],[]] [[],[],[0,1],[0,1,2],[],[],[4,5],[4,5,6],[0,1,2,3,4,5,6,7],[],[],[],[10,11],[10,11,12],[0,1,2,3,4,5,6,7,8,9,10,11,12,13],[0,1,2,3,4,5,6,7,8,9,10,11,12,13,14],[],[0,1,2,3,4,5,6,7,8,9,10,11,12,13,14,15,16]] rfl
       (aD G G (aA G G ?_) (aD G G (aA G G ?_) (aD G G (aA G G ?_) (aD G G (aA G G ?_) (aD G G (aA G G ?_) (aD G G (aA G G ?_) (aD G G (aA G G ?_) (aD G G (aA G G ?_) (aD G G (aA G G ?_) (aD G G (aA G G ?_) (aD G G (aA G G ?_) (aD G G (aA G G ?_) (aD G G (aA G G ?_) (aD G G (aA G G ?_) (aD G G (aA G G ?_) (aD G G (aA G G ?_) (aD G G (aA G G ?_) dF))))))))))))))))) ?_
      ·intro Hi Hr
       have o:Bl lb w Hi:=H.ext Hr
       refine a8 (mv 1 G ?_)
       exact aC G aB rfl
      ·intro Ho Hd
       have o:Bl lb w Ho:=H.ext Hd
       refine a8 (mv 1 G ?_)
       exact aC G aB rfl
      ·intro Hk Gw
       have o:Bl lb w Hk:=H.ext Gw
       refine dk G G (dk G G (a8 (aX G G G bM aG.size k G qr ug ?_)))
       exact aC G aB rfl
      ·intro Gp Az
       have o:Bl lb w Gp:=H.ext Az
       refine dk G G (a8 (aK G G (tz _ Az _ _ aG) ?_))
       exact aC G aB rfl
      ·intro Hb Hh
       have o:Bl lb w Hb:=H.ext Hh
       refine a8 (mv 1 G ?_)
       exact aC G aB rfl
      ·intro Gx Gq
       have o:Bl lb w Gx:=H.ext Gq
       refine a8 (mv 1 G ?_)
       exact aC G aB rfl
      ·intro Hm wn
       have o:Bl lb w Hm:=H.ext wn
       refine dk G G (dk G G (a8 (aX G G G bM aG.size j G qk uf ?_)))
       exact aC G aB rfl
      ·intro zw pj
       have o:Bl lb w zw:=H.ext pj
       refine dk G G (a8 (aK G G (si _ pj _ _ aG) ?_))
       exact aC G aB rfl
      ·intro Ef lu
       have o:Bl lb w Ef:=H.ext lu
       refine dk G G (dk G G (a8 ?_))
       have Hv:ln ((V (qs.getD k 0) k)*(V (qs.getD (k+1+t) 0) j))≤34359738368:=a7 (eX (fo.ln_le gt) (fv.ln_le gj)) (by decide)
       refine bR G G (vs:= [O om ox qe pp,O ot qx qv pk]) (by kernel_rfl) (by decide) (iU o.size (fo.ext lu).zi (fo.le (a7 (fo.ln_le gt) (by decide))) (fv.ext lu).zi (fv.le (a7 (fv.ln_le gj) (by decide)))) ?_
       rintro _ wh ⟨_,rfl,vg,qy⟩
       refine bL ?_
       have I:Bl lb w wh:=o.ext qy
       obtain⟨_,_,_,_,rfl,Ae⟩:=vg
       exact aC G qy ⟨_,_,_,_,rfl,Ae⟩
      ·intro vj rf
       have o:Bl lb w vj:=H.ext rf
       refine a8 (lo aG (b_g49.ext rf) (a4 cj cg cm co) G G G ?_)
       exact aC G aB rfl
      ·intro Ao Df
       have o:Bl lb w Ao:=H.ext Df
       refine a8 (mv 1 G ?_)
       exact aC G aB rfl
      ·intro wu yz
       have o:Bl lb w wu:=H.ext yz
       refine a8 (mv 1 G ?_)
       exact aC G aB rfl
      ·intro Eo Bo
       have o:Bl lb w Eo:=H.ext Bo
       refine dk G G (dk G G (a8 (aX G G G bM aG.size j G po ud ?_)))
       exact aC G aB rfl
      ·intro xd rp
       have o:Bl lb w xd:=H.ext rp
       refine dk G G (a8 (aK G G (uk _ rp _ _ aG) ?_))
       exact aC G aB rfl
      ·intro yx jy
       have o:Bl lb w yx:=H.ext jy
       refine dk G G (dk G G (a8 ?_))
       have Hz:ln ((Y (qs.getD (k+1+t) 0) k)*(V (qs.getD k 0) j))≤34359738368:=a7 (eX (iw.ln_le gg) (fh.ln_le fx)) (by decide)
       refine bR G G (vs:= [O cj cg cm co,O pb qz qq qn]) (by kernel_rfl) (by decide) (iU o.size (z_g49.ext jy).zi (z_g49.le (a7 (iw.ln_le gg) (by decide))) (fh.ext jy).zi (fh.le (a7 (fh.ln_le fx) (by decide)))) ?_
       rintro _ Bt ⟨_,rfl,Eg,qg⟩
       refine bL ?_
       have I:Bl lb w Bt:=o.ext qg
       obtain⟨_,_,_,_,rfl,Dk⟩:=Eg
       exact aC G qg ⟨_,_,_,_,rfl,Dk⟩
      ·intro Dx As
       have o:Bl lb w Dx:=H.ext As
       refine aT G G fun _ _ Bd _ Cq=>?_
       obtain⟨Dv,Du,Ev,Gf,rfl,jj⟩:=Bd
       have jj:=jj.ext Cq
       refine aT G G fun _ _ Ec _ za=>?_
       obtain⟨Cc,Fe,Ek,xp,rfl,jg⟩:=Ec
       have jg:=jg.ext za
       refine a8 ?_
       have Hw:ln (((V (qs.getD k 0) k)*(V (qs.getD (k+1+t) 0) j))-((Y (qs.getD (k+1+t) 0) k)*(V (qs.getD k 0) j)))≤34359738369:=a7 (i7 ue uq) (by decide)
       refine bR G G (vs:= [O Dv Du Ev Gf,O Cc Fe Ek xp]) (by kernel_rfl) (by decide) (nO o.size jj.zi (jj.le (aZ ue G)) jg.zi (jg.le (aZ uq G))) ?_
       rintro _ Es ⟨_,rfl,Ff,qh⟩
       refine bL ?_
       have I:Bl lb w Es:=o.ext qh
       obtain⟨_,_,_,_,rfl,vm⟩:=Ff
       exact aC G qh ⟨_,_,_,_,rfl,vm⟩
      ·intro vw qw
       have o:Bl lb w vw:=H.ext qw
       refine a8 (dM G (z:= .agg #[F0,S0]) (vs:= [F0,S0]) (fun _=>by kernel_rfl) G fun _ _ nb=>?_)
       exact aC G nb.ext ⟨_,rfl,by rw [←nb.at_];exact qw.size,nb.bk⟩
      ·intro Ah ar
       have o:Bl lb w Ah:=H.ext ar
       refine dk G G (dk G G (dk G G (dk G G (dk G G (dk G G (dk G G (dk G G (aT G G fun _ _ Dd _ Ei=>?_))))))))
       obtain⟨_,_,_,_,rfl,qo⟩:=Dd
       have qo:=qo.ext Ei
       refine dk G G (dk G G (dk G G (dk G G (dk G G (aT G G fun _ _ Gc _ Bn=>?_)))))
       obtain⟨_,_,_,_,rfl,re⟩:=Gc
       have re:=re.ext Bn
       refine aT G G fun _ _ yw _ Di=>?_
       obtain⟨ig,ik,ix,iu,rfl,io⟩:=yw
       have io:=io.ext Di
       refine aT G G fun _ _ Cz _ xz=>?_
       obtain⟨fj,rfl,bg,ae⟩:=Cz
       have ae:=ae.ext xz
       have Hy:ew<fj:=cJ b_g49.lt bg
       have su:∀p:a6,RA=some p→p.block≠fj:=fun p hp=>by have:=((o_RAwj).block p hp).2;have:=bg;omega
       have sd:∀p:a6,NA=some p→p.block≠fj:=fun p hp=>by have:=((o_NAwj).block p hp).2;have:=bg;omega
       have kc:∀r,r<n→∀p:a6,ra r=some p→p.block≠fj:=fun r hr p hp=>by have:=((rc_wj).lt r hr p hp).2;have:=bg;omega
       have bg:w.heap.size≤fj:=a7 H.size bg
       refine a8 (fC G G G aG G ae (bq G) G (a4 ig ik ix iu) G fun Cd uu ao _=>?_)
       have I:Bl lb w Cd:=o.upd ao (a7 hlb bg)
       refine aS (dA (aM ?_))
       have hq:=ez.quot hI.last hI.ne (by rw [ez.old (aI _) (by omega) (aI _) (by omega) (bE G)];exact ks) (by omega) (by omega) kg gx (hM.old (a:=k+1+t) (b:=k) (by omega) (by omega) (aI _) (by omega) (bK (bK ⟨rfl,bE rfl⟩)))
       have uv:ln (bm (pr X qs) (k+1) (k+1+t) j)≤17179869184:=a7 (D9 hn (t7 hI.per hX) (by omega) (by omega) gx) (by decide)
       obtain⟨kd,_,_,_,_,ic,_,_,_⟩:=(((rc_wj.ext ar).updT ae ao kc)).at (hI.per.lt (k+1+t) (by omega)) (show j<n by omega)
       refine dP cF 12 [9,10] [Is (By (ra (qs.getD (k+1+t) 0)) n (rc (qs.getD (k+1+t) 0))),Is (AI j),Is (O ig ik ix iu),Is (a9 g 0),Is (a9 g 0),Is (a9 g 3),Is (O sl Al nl cl),T2 (ZR w.heap.size (bm (pr X qs) (k+1) (k+1+t) j)) (Is (AI 0)),T2 (ZR w.heap.size (bm (pr X qs) (k+1) (k+1+t) j)) (Is (AI 0)),ZR w.heap.size (bm (pr X qs) (k+1) (k+1+t) j),Is (AI 0),Is (.pointer (some kd))] [[],[],[],[],[3],[4],[5],[2,6],[7],[8],[8],[0,1]] [[],[],[],[],[3],[3,4],[3,4,5],[2,3,4,5,6],[2,3,4,5,6,7],[2,3,4,5,6,7,8],[2,3,4,5,6,7,8],[0,1,2,3,4,5,6,7,8,9],[0,1,2,3,4,5,6,7,8,9,11]] rfl
        (aD G G (aA G G ?_) (aD G G (aA G G ?_) (aD G G (aA G G ?_) (aD G G (aA G G ?_) (aD G G (aA G G ?_) (aD G G (aA G G ?_) (aD G G (aA G G ?_) (aD G G (aA G G ?_) (aD G G (aA G G ?_) (gH G G (gM G ?_) (gH G G (gM G ?_) (aD G G (aA G G ?_) dF)))))))))))) ?_
       ·intro ya Aj
        have J:Bl lb w ya:=I.ext Aj
        refine a8 (mv 1 G ?_)
        exact aC G aB rfl
       ·intro Fv Ad
        have J:Bl lb w Fv:=I.ext Ad
        refine a8 (mv 1 G ?_)
        exact aC G aB rfl
       ·intro xg qc
        have J:Bl lb w xg:=I.ext qc
        refine a8 (lo aG (uu.ext qc) (a4 ig ik ix iu) G G G ?_)
        exact aC G aB rfl
       ·intro Et Ez
        have J:Bl lb w Et:=I.ext Ez
        refine a8 (mv 1 G ?_)
        exact aC G aB rfl
       ·intro yn zp
        have J:Bl lb w yn:=I.ext zp
        refine dk G G (a8 (pf g 0 G ?_))
        exact aC G aB rfl
       ·intro Ew yp
        have J:Bl lb w Ew:=I.ext yp
        refine dk G G (a8 (pf g 3 G ?_))
        exact aC G aB rfl
       ·intro Af qi
        have J:Bl lb w Af:=I.ext qi
        refine dk G G (a8 (lo aG (((b_g.ext ar).vN ao).ext qi) (a4 sl Al nl cl) G G G ?_))
        exact aC G aB rfl
       ·intro Fq mw
        have J:Bl lb w Fq:=I.ext mw
        refine dk G G (dk G G (a8 (bR G G (vs:= [O ig ik ix iu,O sl Al nl cl]) (by kernel_rfl) (by decide) ((qM J.size ((io.updT ae ao).ext mw).zi (io.le (aZ Hp G)) (((z_g_1.ext ar).updT ae ao).ext mw).zi (z_g_1.le (aZ Fj G)) hI.ne ⟨_,hq.1⟩).mono (Gv.imp (T2.imp (fun _ _ h=>ZR.cast h hq.2) Is.imp))) ?_)))
        rintro _ yt ⟨_,rfl,wz,ov⟩
        refine bL ?_
        have fz:Bl lb w yt:=J.ext ov
        obtain⟨_,_,rfl,⟨_,_,_,_,rfl,Ea⟩,rfl⟩:=wz
        exact aC G ov ⟨_,_,rfl,⟨_,_,_,_,rfl,Ea⟩,rfl⟩
       ·intro Bv Ag
        have J:Bl lb w Bv:=I.ext Ag
        refine aT G G fun _ _ wy _ uy=>?_
        obtain⟨_,_,rfl,⟨_,_,_,_,rfl,lm⟩,rfl⟩:=wy
        have lm:=lm.ext uy
        refine a8 (mv 1 G ?_)
        exact aC G aB ⟨_,_,rfl,⟨_,_,_,_,rfl,lm⟩,rfl⟩
       ·intro Bq Eu
        have J:Bl lb w Bq:=I.ext Eu
        refine aT G G fun _ _ Cj _ xm=>?_
        obtain⟨_,_,rfl,⟨yv,xe,Fm,Ee,rfl,kb⟩,rfl⟩:=Cj
        have kb:=kb.ext xm
        refine a8 ?_
        exact⟨O yv xe Fm Ee,rfl,rfl,fun _=>by kernel_rfl,⟨_,_,_,_,rfl,kb⟩⟩
       ·intro Dg Bm
        have J:Bl lb w Dg:=I.ext Bm
        refine aT G G fun _ _ Cx _ xv=>?_
        obtain⟨_,_,rfl,⟨_,_,_,_,rfl,qt⟩,rfl⟩:=Cx
        have qt:=qt.ext xv
        refine a8 ?_
        exact⟨AI 0,rfl,rfl,fun _=>by kernel_rfl,rfl⟩
       ·intro Ds Dc
        have J:Bl lb w Ds:=I.ext Dc
        refine dk G G (dk G G (a8 (aX G G G bM aG.size j G kd ic ?_)))
        exact aC G aB rfl
       ·intro Ej cu
        have J:Bl lb w Ej:=I.ext cu
        refine dk G G (dk G G (dk G G (dk G G (dk G G (dk G G (dk G G (aT G G fun _ _ Cg _ zt=>?_)))))))
        obtain⟨_,_,rfl,⟨_,_,_,_,rfl,oq⟩,rfl⟩:=Cg
        have oq:=oq.ext zt
        refine aT G G fun _ _ Bf _ Bj=>?_
        obtain⟨_,_,rfl,⟨_,_,_,_,rfl,pg⟩,rfl⟩:=Bf
        have pg:=pg.ext Bj
        refine aT G G fun _ _ Fd _ Ep=>?_
        obtain⟨zd,Fz,Dw,Fg,rfl,jd⟩:=Fd
        have jd:=jd.ext Ep
        refine dk G G (dk G G (a8 ?_))
        have mc:=(((rc_wj.ext ar).updT ae ao kc).ext cu)
        obtain⟨_,ey⟩:=mc.own (hI.per.lt (k+1+t) (by omega))
        refine pR (e:=⟨zd,Fz,Dw,Fg⟩) (z:=bm (pr X qs) (k+1) (k+1+t) j) G G G mc (hI.per.lt (k+1+t) (by omega)) (show j<n by omega) ic (Zr.mono jd (bX _)) (jd.le (aZ uv G)) fun pt ut ba=>?_
        have fz:Bl lb w pt:=J.updO ba (fun p hp=>(ey.block p hp).1)
        refine aS (dA (cC (aM (aL (mv 1 G (bC G G G ((j+1:Nat):Int) (bW (a:=j) (b:=1) G G) (mv 1 G (aS (cB (⟨pt,j+1,ent V (qs.getD (k+1+t) 0) j (bm (pr X qs) (k+1) (k+1+t) j)⟩:a0×Nat×Mx) ⟨fz,(by omega),((((b_g.ext ar).vN ao).ext cu).updO ba (hA.rg (qs.getD (k+1+t) 0) (hI.per.lt (k+1+t) (by omega)))),((((z_g_1.ext ar).updT ae ao).ext cu).updOT ey ba),((((b_g49.ext ar).vN ao).ext cu).updO ba (qm (qs.getD (k+1+t) 0) (hI.per.lt (k+1+t) (by omega)))),((((z_g49.ext ar).updT ae ao).ext cu).updOT ey ba),((((o_RAwj.ext ar).upd ao su).ext cu).updO ba (fun p q hp hq e=>hA.Rr (qs.getD (k+1+t) 0) (hI.per.lt (k+1+t) (by omega)) q p hq hp e.symm)),((((o_NAwj.ext ar).upd ao sd).ext cu).updO ba (fun p q hp hq e=>hA.Nr (qs.getD (k+1+t) 0) (hI.per.lt (k+1+t) (by omega)) q p hq hp e.symm)),ut,(by omega),(ez.next hI.per (by omega) (by omega) kg gx G)⟩ (show n-(j+1)<n-j by omega) G ⟨rfl,rfl,rfl,rfl,rfl,rfl,rfl,rfl,rfl,rfl,rfl,rfl,rfl,rfl,rfl,rfl,rfl,rfl,rfl,rfl,rfl,rfl,rfl,rfl,rfl,rfl,rfl,rfl,rfl,rfl,rfl,rfl,rfl,rfl,rfl,rfl,rfl,rfl,rfl,rfl,rfl,rfl,rfl,rfl,rfl,rfl,rfl,rfl,rfl,rfl,rfl,rfl,rfl,rfl,rfl,rfl,rfl,rfl,rfl,rfl,rfl,rfl,rfl,rfl,rfl,rfl,rfl,rfl,rfl,rfl,rfl,rfl,rfl,rfl,rfl,rfl,rfl,rfl,rfl,rfl,rfl,rfl,rfl,rfl,rfl,rfl,rfl,rfl,rfl,rfl,rfl,rfl,rfl,rfl,rfl,rfl,rfl,rfl,rfl,rfl,rfl,rfl,rfl,rfl,rfl,rfl,rfl,rfl,rfl,rfl,rfl,rfl,rfl,rfl,rfl,rfl,rfl,rfl,rfl,rfl,rfl,rfl,rfl,rfl,rfl,rfl,rfl,rfl,rfl,rfl,Ht⟩)))))))))
     ·refine aL (mv 2 G (pu (v:= AI n) G (aN G G G false (dK (a:=j) (b:=n) G G) (aE (aY G (cM (cK (cT (cL (aM (aL (mv 2 G (pu (v:= .agg #[F0,S0]) G ?_)))))))))))))
      obtain⟨ur,_,_,_,_,iz,_,_,_⟩:=(rc_wj).at (hI.per.lt (k+1+t) (by omega)) (show k<n by omega)
      refine aX G G G bM aG.size k G ur iz ?_
      have mb:=rc_wj
      obtain⟨_,jb⟩:=mb.own (hI.per.lt (k+1+t) (by omega))
      refine pR (e:=⟨false,none,0,0⟩) (z:=0) G G G mb (hI.per.lt (k+1+t) (by omega)) (show k<n by omega) iz (Zr.mono (Zr.zero (w:=wj) (base:=w.heap.size)) (bX _)) (bX _) fun qj rz dh=>?_
      have o:Bl lb w qj:=H.updO dh (fun p hp=>(jb.block p hp).1)
      refine aS (cC (aM (aL (bC G G G ((t+1:Nat):Int) (bW (a:=t) (b:=1) G G) (mv 1 G (aS (cB (⟨qj,t+1,ent V (qs.getD (k+1+t) 0) k 0⟩:a0×Nat×Mx) ⟨o,(by omega),(b_g.updO dh (hA.rg (qs.getD (k+1+t) 0) (hI.per.lt (k+1+t) (by omega)))),(z_g_1.updOT jb dh),(o_RAwj.updO dh (fun p q hp hq e=>hA.Rr (qs.getD (k+1+t) 0) (hI.per.lt (k+1+t) (by omega)) q p hq hp e.symm)),(o_NAwj.updO dh (fun p q hp hq e=>hA.Nr (qs.getD (k+1+t) 0) (hI.per.lt (k+1+t) (by omega)) q p hq hp e.symm)),rz,(by have h9:Mid n k (pr X qs) qs V (k+1+t) n:=(show j=n by omega)▸ez;exact h9.row hI.per (by omega) (by omega) 0)⟩ (show (n-(k+1))-(t+1)<(n-(k+1))-t by omega) G ⟨rfl,rfl,rfl,rfl,rfl,rfl,rfl,rfl,rfl,rfl,rfl,rfl,rfl,rfl,rfl,rfl,rfl,rfl,rfl,rfl,rfl,rfl,rfl,rfl,rfl,rfl,rfl,rfl,rfl,rfl,rfl,rfl,rfl,rfl,rfl,rfl,rfl,rfl,rfl,rfl,rfl,rfl,rfl,rfl,rfl,rfl,rfl,rfl,rfl,rfl,rfl,rfl,rfl,rfl,rfl,rfl,rfl,rfl,rfl,rfl,rfl,rfl,rfl,rfl,rfl,rfl,rfl,rfl,rfl,rfl,rfl,rfl,rfl,rfl,rfl,rfl,rfl,rfl,rfl,rfl,rfl,rfl,rfl,rfl,rfl,rfl,rfl,rfl,rfl,rfl,rfl,rfl,rfl,rfl,rfl,rfl,rfl,rfl,rfl,rfl,rfl,rfl,rfl,rfl,rfl,rfl,rfl,rfl,rfl,rfl,rfl,rfl,rfl,rfl,rfl,rfl,rfl,rfl,Ht⟩)))))))
    ·refine aL (aN G G G false (dK (a:=t) (b:=n-(k+1)) G G) (aE (aH (aY G (cM (cK (cT (cL (aM (sr (mv 3 G ?_)))))))))))
     obtain⟨tb,mf,kw,jn,ka,nm,mz,_,tf⟩:=(rc_wt).at (hI.per.lt k (by omega)) (show k<n by omega)
     refine aX G G G bM aG.size k G tb nm (aK G G (mz _ aB _ _ aG) (pf g 0 G (pf g 3 G ?_)))
     have gc:=b_g
     refine fC G G G aG G gc (bq G) G [By RA n rcap,By NA n ncap,.bool (!tu),.bool mf,By kw jn ka,AI k] G fun yq eh fe _=>?_
     have o:Bl lb w yq:=H.upd fe hA.lg
     refine aE (sr (mv 1 G (pf g 0 G (pf g 5 G (aK G G (aQ bV eh G) (bC G G G ((k+1:Nat):Int) (bW (a:=k) (b:=1) G G) (pf g 0 G (pf g 5 G (jC G G G nE G eh (bq G) G [By RA n rcap,By NA n ncap,.bool (!tu),.bool mf,By kw jn ka,AI ((k+1:Nat):Int)] G fun vk td fr _=>?_)))))))))
     have I:Bl lb w vk:=o.upd fr hA.lg
     refine aE (sr (mv 1 G (aE (bG (bF [BY] G ⟨rfl,Ht⟩ ?_)))))
     have li:Mid n k (pr X qs) qs Y n (k+1):=(show k+1+t=n by omega)▸hM
     exact⟨I,bK ⟨qs,Y,!tu,Y (qs.getD k 0) k,rfl,⟨_,_,_,_,_,td,((tf.updT gc fe).updT eh fr),((o_RAwt.upd fe hA.Rg).upd fr hA.Rg),((o_NAwt.upd fe hA.Ng).upd fr hA.Ng),((rc_wt.updT gc fe hA.rg).updT eh fr hA.rg)⟩,hI.next (by omega) li (by rw [li.old (aI _) (by omega) (aI _) (by omega) (bE G)];exact ks)⟩⟩
   ·refine aL (mv 2 G (aN G G G false (kC (a:=p) (b:=k) G G) (aE (aY G (bA (aM (aH ?_)))))))
    obtain⟨qs,gk⟩:∃qs,qs=ps:=⟨_,rfl⟩
    have hI:Inv n X k qs Z tu z:=by rw [gk];exact hI0
    have hD:Z (qs.getD k 0) k≠0:=by rw [gk];have e:p=k:=(by omega);rw [e] at jl;exact jl
    have lj:Own v8 lb 22 1 RA n rcap (qs.map (dW ra rc n)):=by rw [gk];exact (o_RAwp.ext e9)
    have ks:bm (pr X qs) k k k≠0:=by rw [←hI.ent k k (aI _) (by omega) (aI _) (by omega)];exact hD
    refine aL (mv 1 G (pf g 0 G (pf g 0 G (aK G G (aQ cG (b_g.ext e9) G) (mv 1 G ?_)))))
    obtain⟨df,nd,oe⟩:=(lj).rowAt (i:=k) (by omega)
    refine aX G G G d9 cV k G df nd (aK G G (cP cD oe) (mv 1 G (aE (aH (sr (mv 1 G (pf g 0 G (pf g 0 G (aK G G (aQ cG (b_g.ext e9) G) (mv 1 G (bC G G G ((k+1:Nat):Int) (bW (a:=k) (b:=1) G G) (vM G G d9 cV (lo:=k+1) (hi:=n) G G (by omega) qp (v:= .slice (if rcap=k+1 then RA else RA.map (·.add ((k+1)*1))) (n-(k+1)) (rcap-(k+1))) G (by decide) (pu (v:= AI ((n-(k+1):Nat):Int)) G ?_)))))))))))))
    refine mv 1 G (aE (bB ?_))
    refine d6 (T:=a0×Nat×Mx) (fun⟨wt,t,Y⟩=> [(0,a9 g 0),(1,AI k),(4,Hs),(5,AI k),(6,AI p),(7,By (ra (qs.getD k 0)) n (rc (qs.getD k 0))),(13,a9 g 0),(14,a9 g 0),(15,a9 g 5),(16,AI k),(17,AI k),(18,AI p),(19,a9 g 0),(20,a9 g 0),(21,a9 g 0),(22,By RA n rcap),(23,AI n),(24,BY),(25,BY),(26,a9 g 0),(27,a9 g 0),(28,a9 g 0),(29,By RA n rcap),(30,AI p),(31,.pointer (some U)),(32,By (ra (ps.getD p 0)) n (rc (ps.getD p 0))),(33,AI k),(34,.pointer (some cd)),(35,O cf bv bu bw),(36,AI (bU (Z (ps.getD p 0) k) 0)),(37,Hs),(38,Hs),(41,AI p),(42,a9 g 0),(43,a9 g 0),(44,a9 g 0),(45,By RA n rcap),(46,AI n),(47,Hs),(48,AI p),(49,AI k),(50,Hs),(111,a9 g 0),(112,a9 g 0),(113,a9 g 0),(114,By RA n rcap),(115,AI k),(116,.pointer (some df)),(117,By (ra (qs.getD k 0)) n (rc (qs.getD k 0))),(118,a9 g 0),(119,a9 g 0),(120,a9 g 0),(121,By RA n rcap),(122,AI k),(123,AI ((k+1:Nat):Int)),(124,.slice (if rcap=k+1 then RA else RA.map (·.add ((k+1)*1))) (n-(k+1)) (rcap-(k+1))),(125,AI ((n-(k+1):Nat):Int)),(126,AI t)]) (fun⟨wt,t,Y⟩=>wt) (fun⟨wt,t,Y⟩=>(Bl lb w wt)∧(t≤n-(k+1))∧(Bk wt g 81 [By RA n rcap,By NA n ncap,.bool tu,.bool sl,By Al nl cl,AI k])∧(Zr wt 0 sl Al nl cl (z))∧(Own wt lb 22 1 RA n rcap (qs.map (dW ra rc n)))∧(Own wt lb 3 1 NA n ncap (ns.map gX))∧(Rcs 17179869184 lb n n ra rc wt Y)∧(Mid n k (pr X qs) qs Y (k+1+t) (k+1))) (fun⟨wt,t,Y⟩=>(n-(k+1))-t)
     (⟨v8,0,Z⟩:a0×Nat×Mx) ⟨o,(by omega),(b_g.ext e9),(z_g_1.ext e9),lj,(o_NAwp.ext e9),(rc_wp.ext e9),(Mid.start hI)⟩ G ⟨rfl,rfl,rfl,rfl,rfl,rfl,rfl,rfl,rfl,rfl,rfl,rfl,rfl,rfl,rfl,rfl,rfl,rfl,rfl,rfl,rfl,rfl,rfl,rfl,rfl,rfl,rfl,rfl,rfl,rfl,rfl,rfl,rfl,rfl,rfl,rfl,rfl,rfl,rfl,rfl,rfl,rfl,rfl,rfl,rfl,rfl,rfl,rfl,rfl,rfl,rfl,rfl,rfl,rfl,rfl,rfl,rfl,rfl,Ht⟩ ?_
    rintro⟨wt,t,Y⟩ ⟨H,xy,b_g,z_g_1,o_RAwt,o_NAwt,rc_wt,hM⟩
    refine d4 [(0,a9 g 0),(1,AI k),(4,Hs),(5,AI k),(6,AI p),(7,By (ra (qs.getD k 0)) n (rc (qs.getD k 0))),(13,a9 g 0),(14,a9 g 0),(15,a9 g 5),(16,AI k),(17,AI k),(18,AI p),(19,a9 g 0),(20,a9 g 0),(21,a9 g 0),(22,By RA n rcap),(23,AI n),(24,BY),(25,BY),(26,a9 g 0),(27,a9 g 0),(28,a9 g 0),(29,By RA n rcap),(30,AI p),(31,.pointer (some U)),(32,By (ra (ps.getD p 0)) n (rc (ps.getD p 0))),(33,AI k),(34,.pointer (some cd)),(35,O cf bv bu bw),(36,AI (bU (Z (ps.getD p 0) k) 0)),(37,Hs),(38,Hs),(41,AI p),(42,a9 g 0),(43,a9 g 0),(44,a9 g 0),(45,By RA n rcap),(46,AI n),(47,Hs),(48,AI p),(49,AI k),(50,Hs),(111,a9 g 0),(112,a9 g 0),(113,a9 g 0),(114,By RA n rcap),(115,AI k),(116,.pointer (some df)),(117,By (ra (qs.getD k 0)) n (rc (qs.getD k 0))),(118,a9 g 0),(119,a9 g 0),(120,a9 g 0),(121,By RA n rcap),(122,AI k),(123,AI ((k+1:Nat):Int)),(124,.slice (if rcap=k+1 then RA else RA.map (·.add ((k+1)*1))) (n-(k+1)) (rcap-(k+1))),(125,AI ((n-(k+1):Nat):Int)),(126,AI t)] wt G ⟨rfl,rfl,rfl,rfl,rfl,rfl,rfl,rfl,rfl,rfl,rfl,rfl,rfl,rfl,rfl,rfl,rfl,rfl,rfl,rfl,rfl,rfl,rfl,rfl,rfl,rfl,rfl,rfl,rfl,rfl,rfl,rfl,rfl,rfl,rfl,rfl,rfl,rfl,rfl,rfl,rfl,rfl,rfl,rfl,rfl,rfl,rfl,rfl,rfl,rfl,rfl,rfl,rfl,rfl,rfl,rfl,rfl,rfl,Ht⟩ (aH ?_)
    by_cases Gk:t<n-(k+1)
    ·refine aL (aN G G G true (dB (a:=t) (b:=n-(k+1)) G G) (aE (aH (bJ G (bA (aM (aH (bB (sr ?_)))))))))
     obtain⟨ge,nx,ng⟩:=(o_RAwt).rowTail (lo:=k+1) (i:=t) (by omega)
     refine aX G G G d9 cV t G ge nx (aK G G (cP cD ng) (mv 1 G (aE (sr (mv 2 G ?_)))))
     obtain⟨gn,aw,aq,av,az,od,nj,fa,eg⟩:=(rc_wt).at (hI.per.lt (k+1+t) (by omega)) (show k<n by omega)
     refine aX G G G bM aG.size k G gn od (aK G G (nj _ aB _ _ aG) (dM G (z:= .agg #[F0,S0]) (vs:= [F0,S0]) (fun _=>by kernel_rfl) G fun bj Ex nb=>?_))
     have em:=nb.bk
     have tr:w.heap.size≤bj:=by rw [←nb.at_];exact H.size
     have Hx:g<bj:=by rw [←nb.at_];exact b_g.lt
     have tv:∀p:a6,RA=some p→p.block≠bj:=fun p hp=>by have:=((o_RAwt).block p hp).2;have:=nb.at_;omega
     have rt:∀p:a6,NA=some p→p.block≠bj:=fun p hp=>by have:=((o_NAwt).block p hp).2;have:=nb.at_;omega
     have ma:∀r,r<n→∀p:a6,ra r=some p→p.block≠bj:=fun r hr p hp=>by have:=((rc_wt).lt r hr p hp).2;have:=nb.at_;omega
     have dm:=nb.ext
     clear nb
     have o:Bl lb w Ex:=H.ext dm
     refine fC G G G aG G em (bq G) G (a4 aw aq av az) G fun ou ub dd _=>?_
     have I:Bl lb w ou:=o.upd dd (a7 hlb tr)
     refine aE (aH (sr (mv 1 G (bC G G G ((k+1:Nat):Int) (bW (a:=k) (b:=1) G G) (mv 1 G (aE (bB ?_)))))))
     refine d6 (T:=a0×Nat×Mx) (fun⟨wj,j,V⟩=> [(0,a9 g 0),(1,AI k),(4,Hs),(5,AI k),(6,AI p),(7,By (ra (qs.getD k 0)) n (rc (qs.getD k 0))),(9,By (ra (qs.getD (k+1+t) 0)) n (rc (qs.getD (k+1+t) 0))),(10,a9 bj 0),(11,AI j),(13,a9 g 0),(14,a9 g 0),(15,a9 g 5),(16,AI k),(17,AI k),(18,AI p),(19,a9 g 0),(20,a9 g 0),(21,a9 g 0),(22,By RA n rcap),(23,AI n),(24,BY),(25,BY),(26,a9 g 0),(27,a9 g 0),(28,a9 g 0),(29,By RA n rcap),(30,AI p),(31,.pointer (some U)),(32,By (ra (ps.getD p 0)) n (rc (ps.getD p 0))),(33,AI k),(34,.pointer (some cd)),(35,O cf bv bu bw),(36,AI (bU (Z (ps.getD p 0) k) 0)),(37,Hs),(38,Hs),(41,AI p),(42,a9 g 0),(43,a9 g 0),(44,a9 g 0),(45,By RA n rcap),(46,AI n),(47,Hs),(48,AI p),(49,AI k),(50,Hs),(111,a9 g 0),(112,a9 g 0),(113,a9 g 0),(114,By RA n rcap),(115,AI k),(116,.pointer (some df)),(117,By (ra (qs.getD k 0)) n (rc (qs.getD k 0))),(118,a9 g 0),(119,a9 g 0),(120,a9 g 0),(121,By RA n rcap),(122,AI k),(123,AI ((k+1:Nat):Int)),(124,.slice (if rcap=k+1 then RA else RA.map (·.add ((k+1)*1))) (n-(k+1)) (rcap-(k+1))),(125,AI ((n-(k+1):Nat):Int)),(126,AI t),(127,BY),(128,.pointer (some ge)),(129,By (ra (qs.getD (k+1+t) 0)) n (rc (qs.getD (k+1+t) 0))),(130,By (ra (qs.getD (k+1+t) 0)) n (rc (qs.getD (k+1+t) 0))),(131,AI k),(132,.pointer (some gn)),(133,O aw aq av az),(134,AI k),(135,AI ((k+1:Nat):Int))]) (fun⟨wj,j,V⟩=>wj) (fun⟨wj,j,V⟩=>(Bl lb w wj)∧(j≤n)∧(Bk wj g 81 [By RA n rcap,By NA n ncap,.bool tu,.bool sl,By Al nl cl,AI k])∧(Zr wj 0 sl Al nl cl (z))∧(Bk wj bj 41 (a4 aw aq av az))∧(Zr wj 0 aw aq av az (Y (qs.getD (k+1+t) 0) k))∧(Own wj lb 22 1 RA n rcap (qs.map (dW ra rc n)))∧(Own wj lb 3 1 NA n ncap (ns.map gX))∧(Rcs 17179869184 lb n n ra rc wj V)∧(k<j)∧(Mid n k (pr X qs) qs V (k+1+t) j)) (fun⟨wj,j,V⟩=>n-j)
      (⟨ou,(k+1),Y⟩:a0×Nat×Mx) ⟨I,(by omega),((b_g.ext dm).vN dd),((z_g_1.ext dm).updT em dd),ub,((eg.ext dm).updT em dd),((o_RAwt.ext dm).upd dd tv),((o_NAwt.ext dm).upd dd rt),((rc_wt.ext dm).updT em dd ma),(by omega),hM⟩ G ⟨rfl,rfl,rfl,rfl,rfl,rfl,rfl,rfl,rfl,rfl,rfl,rfl,rfl,rfl,rfl,rfl,rfl,rfl,rfl,rfl,rfl,rfl,rfl,rfl,rfl,rfl,rfl,rfl,rfl,rfl,rfl,rfl,rfl,rfl,rfl,rfl,rfl,rfl,rfl,rfl,rfl,rfl,rfl,rfl,rfl,rfl,rfl,rfl,rfl,rfl,rfl,rfl,rfl,rfl,rfl,rfl,rfl,rfl,rfl,rfl,rfl,rfl,rfl,rfl,rfl,rfl,rfl,rfl,rfl,rfl,Ht⟩ ?_
     rintro⟨wj,j,V⟩ ⟨H,vo,b_g,z_g_1,b_g488,z_g488,o_RAwj,o_NAwj,rc_wj,kg,ez⟩
     refine d4 [(0,a9 g 0),(1,AI k),(4,Hs),(5,AI k),(6,AI p),(7,By (ra (qs.getD k 0)) n (rc (qs.getD k 0))),(9,By (ra (qs.getD (k+1+t) 0)) n (rc (qs.getD (k+1+t) 0))),(10,a9 bj 0),(11,AI j),(13,a9 g 0),(14,a9 g 0),(15,a9 g 5),(16,AI k),(17,AI k),(18,AI p),(19,a9 g 0),(20,a9 g 0),(21,a9 g 0),(22,By RA n rcap),(23,AI n),(24,BY),(25,BY),(26,a9 g 0),(27,a9 g 0),(28,a9 g 0),(29,By RA n rcap),(30,AI p),(31,.pointer (some U)),(32,By (ra (ps.getD p 0)) n (rc (ps.getD p 0))),(33,AI k),(34,.pointer (some cd)),(35,O cf bv bu bw),(36,AI (bU (Z (ps.getD p 0) k) 0)),(37,Hs),(38,Hs),(41,AI p),(42,a9 g 0),(43,a9 g 0),(44,a9 g 0),(45,By RA n rcap),(46,AI n),(47,Hs),(48,AI p),(49,AI k),(50,Hs),(111,a9 g 0),(112,a9 g 0),(113,a9 g 0),(114,By RA n rcap),(115,AI k),(116,.pointer (some df)),(117,By (ra (qs.getD k 0)) n (rc (qs.getD k 0))),(118,a9 g 0),(119,a9 g 0),(120,a9 g 0),(121,By RA n rcap),(122,AI k),(123,AI ((k+1:Nat):Int)),(124,.slice (if rcap=k+1 then RA else RA.map (·.add ((k+1)*1))) (n-(k+1)) (rcap-(k+1))),(125,AI ((n-(k+1):Nat):Int)),(126,AI t),(127,BY),(128,.pointer (some ge)),(129,By (ra (qs.getD (k+1+t) 0)) n (rc (qs.getD (k+1+t) 0))),(130,By (ra (qs.getD (k+1+t) 0)) n (rc (qs.getD (k+1+t) 0))),(131,AI k),(132,.pointer (some gn)),(133,O aw aq av az),(134,AI k),(135,AI ((k+1:Nat):Int))] wj G ⟨rfl,rfl,rfl,rfl,rfl,rfl,rfl,rfl,rfl,rfl,rfl,rfl,rfl,rfl,rfl,rfl,rfl,rfl,rfl,rfl,rfl,rfl,rfl,rfl,rfl,rfl,rfl,rfl,rfl,rfl,rfl,rfl,rfl,rfl,rfl,rfl,rfl,rfl,rfl,rfl,rfl,rfl,rfl,rfl,rfl,rfl,rfl,rfl,rfl,rfl,rfl,rfl,rfl,rfl,rfl,rfl,rfl,rfl,rfl,rfl,rfl,rfl,rfl,rfl,rfl,rfl,rfl,rfl,rfl,rfl,Ht⟩ (aH (aH ?_))
     by_cases gx:j<n
     ·refine aL (mv 2 G (pu (v:= AI n) G (aN G G G true (dB (a:=j) (b:=n) G G) (aE (bJ G (bA (aM (aH (bB (aH ?_))))))))))
      obtain⟨kv,kz,ky,jq,kt,nh,ni,ep,dl⟩:=(rc_wj).at (hI.per.lt k (by omega)) (show k<n by omega)
      obtain⟨mr,jp,me,mj,jz,nu,oa,ee,dn⟩:=(rc_wj).at (hI.per.lt (k+1+t) (by omega)) (show j<n by omega)
      have kx:ln ((V (qs.getD k 0) k)*(V (qs.getD (k+1+t) 0) j))≤34359738368:=a7 (eX (dl.ln_le ep) (dn.ln_le ee)) (by decide)
      obtain⟨ki,mq,ll,jv,kk,oc,ob,dy,da⟩:=(rc_wj).at (hI.per.lt k (by omega)) (show j<n by omega)
      have lf:ln ((Y (qs.getD (k+1+t) 0) k)*(V (qs.getD k 0) j))≤34359738368:=a7 (eX (eg.ln_le fa) (da.ln_le dy)) (by decide)
      have Eh:ln (((V (qs.getD k 0) k)*(V (qs.getD (k+1+t) 0) j))-((Y (qs.getD (k+1+t) 0) k)*(V (qs.getD k 0) j)))≤34359738369:=a7 (i7 kx lf) (by decide)
      refine dP cF 17 [] [Is (By (ra (qs.getD k 0)) n (rc (qs.getD k 0))),Is (AI k),Is (.pointer (some kv)),Is (O kz ky jq kt),Is (By (ra (qs.getD (k+1+t) 0)) n (rc (qs.getD (k+1+t) 0))),Is (AI j),Is (.pointer (some mr)),Is (O jp me mj jz),ZR w.heap.size ((V (qs.getD k 0) k)*(V (qs.getD (k+1+t) 0) j)),Is (O aw aq av az),Is (By (ra (qs.getD k 0)) n (rc (qs.getD k 0))),Is (AI j),Is (.pointer (some ki)),Is (O mq ll jv kk),ZR w.heap.size ((Y (qs.getD (k+1+t) 0) k)*(V (qs.getD k 0) j)),ZR w.heap.size (((V (qs.getD k 0) k)*(V (qs.getD (k+1+t) 0) j))-((Y (qs.getD (k+1+t) 0) k)*(V (qs.getD k 0) j))),PR wj.heap.size 41 [F0,S0]] [[],[],[0,1],[2],[],[],[4,5],[6],[3,7],[],[],[],[10,11],[12],[9,13],[8,14],[]] [[],[],[0,1],[0,1,2],[],[],[4,5],[4,5,6],[0,1,2,3,4,5,6,7],[],[],[],[10,11],[10,11,12],[0,1,2,3,4,5,6,7,8,9,10,11,12,13],[0,1,2,3,4,5,6,7,8,9,10,11,12,13,14],[],[0,1,2,3,4,5,6,7,8,9,10,11,12,13,14,15,16]] rfl
       (aD G G (aA G G ?_) (aD G G (aA G G ?_) (aD G G (aA G G ?_) (aD G G (aA G G ?_) (aD G G (aA G G ?_) (aD G G (aA G G ?_) (aD G G (aA G G ?_) (aD G G (aA G G ?_) (aD G G (aA G G ?_) (aD G G (aA G G ?_) (aD G G (aA G G ?_) (aD G G (aA G G ?_) (aD G G (aA G G ?_) (aD G G (aA G G ?_) (aD G G (aA G G ?_) (aD G G (aA G G ?_) (aD G G (aA G G ?_) dF))))))))))))))))) ?_
      ·intro xf yh
       have o:Bl lb w xf:=H.ext yh
       refine a8 (mv 1 G ?_)
       exact aC G aB rfl
      ·intro Be Cf
       have o:Bl lb w Be:=H.ext Cf
       refine a8 (mv 1 G ?_)
       exact aC G aB rfl
      ·intro vi vn
       have o:Bl lb w vi:=H.ext vn
       refine dk G G (dk G G (a8 (aX G G G bM aG.size k G kv nh ?_)))
       exact aC G aB rfl
      ·intro Fa og
       have o:Bl lb w Fa:=H.ext og
       refine dk G G (a8 (aK G G (ni _ og _ _ aG) ?_))
       exact aC G aB rfl
      ·intro yk Cb
       have o:Bl lb w yk:=H.ext Cb
       refine a8 (mv 1 G ?_)
       exact aC G aB rfl
      ·intro we Fw
       have o:Bl lb w we:=H.ext Fw
       refine a8 (mv 1 G ?_)
       exact aC G aB rfl
      ·intro Bb xb
       have o:Bl lb w Bb:=H.ext xb
       refine dk G G (dk G G (a8 (aX G G G bM aG.size j G mr nu ?_)))
       exact aC G aB rfl
      ·intro vu oy
       have o:Bl lb w vu:=H.ext oy
       refine dk G G (a8 (aK G G (oa _ oy _ _ aG) ?_))
       exact aC G aB rfl
      ·intro Fn jm
       have o:Bl lb w Fn:=H.ext jm
       refine dk G G (dk G G (a8 ?_))
       have Ic:ln ((V (qs.getD k 0) k)*(V (qs.getD (k+1+t) 0) j))≤34359738368:=a7 (eX (dl.ln_le ep) (dn.ln_le ee)) (by decide)
       refine bR G G (vs:= [O kz ky jq kt,O jp me mj jz]) (by kernel_rfl) (by decide) (iU o.size (dl.ext jm).zi (dl.le (a7 (dl.ln_le ep) (by decide))) (dn.ext jm).zi (dn.le (a7 (dn.ln_le ee) (by decide)))) ?_
       rintro _ Ga ⟨_,rfl,Cr,oi⟩
       refine bL ?_
       have I:Bl lb w Ga:=o.ext oi
       obtain⟨_,_,_,_,rfl,Co⟩:=Cr
       exact aC G oi ⟨_,_,_,_,rfl,Co⟩
      ·intro zu oz
       have o:Bl lb w zu:=H.ext oz
       refine a8 (lo aG (b_g488.ext oz) (a4 aw aq av az) G G G ?_)
       exact aC G aB rfl
      ·intro Fp vp
       have o:Bl lb w Fp:=H.ext vp
       refine a8 (mv 1 G ?_)
       exact aC G aB rfl
      ·intro Bc yi
       have o:Bl lb w Bc:=H.ext yi
       refine a8 (mv 1 G ?_)
       exact aC G aB rfl
      ·intro Ch Ax
       have o:Bl lb w Ch:=H.ext Ax
       refine dk G G (dk G G (a8 (aX G G G bM aG.size j G ki oc ?_)))
       exact aC G aB rfl
      ·intro xh pq
       have o:Bl lb w xh:=H.ext pq
       refine dk G G (a8 (aK G G (ob _ pq _ _ aG) ?_))
       exact aC G aB rfl
      ·intro vb mt
       have o:Bl lb w vb:=H.ext mt
       refine dk G G (dk G G (a8 ?_))
       have Id:ln ((Y (qs.getD (k+1+t) 0) k)*(V (qs.getD k 0) j))≤34359738368:=a7 (eX (eg.ln_le fa) (da.ln_le dy)) (by decide)
       refine bR G G (vs:= [O aw aq av az,O mq ll jv kk]) (by kernel_rfl) (by decide) (iU o.size (z_g488.ext mt).zi (z_g488.le (a7 (eg.ln_le fa) (by decide))) (da.ext mt).zi (da.le (a7 (da.ln_le dy) (by decide)))) ?_
       rintro _ Cw ⟨_,rfl,Dz,oo⟩
       refine bL ?_
       have I:Bl lb w Cw:=o.ext oo
       obtain⟨_,_,_,_,rfl,xa⟩:=Dz
       exact aC G oo ⟨_,_,_,_,rfl,xa⟩
      ·intro Bh Fx
       have o:Bl lb w Bh:=H.ext Fx
       refine aT G G fun _ _ Ct _ Ey=>?_
       obtain⟨Fy,xw,Dm,Gb,rfl,ja⟩:=Ct
       have ja:=ja.ext Ey
       refine aT G G fun _ _ vt _ An=>?_
       obtain⟨Au,Fs,vd,Cp,rfl,ib⟩:=vt
       have ib:=ib.ext An
       refine a8 ?_
       have Hu:ln (((V (qs.getD k 0) k)*(V (qs.getD (k+1+t) 0) j))-((Y (qs.getD (k+1+t) 0) k)*(V (qs.getD k 0) j)))≤34359738369:=a7 (i7 kx lf) (by decide)
       refine bR G G (vs:= [O Fy xw Dm Gb,O Au Fs vd Cp]) (by kernel_rfl) (by decide) (nO o.size ja.zi (ja.le (aZ kx G)) ib.zi (ib.le (aZ lf G))) ?_
       rintro _ Fk ⟨_,rfl,yj,qf⟩
       refine bL ?_
       have I:Bl lb w Fk:=o.ext qf
       obtain⟨_,_,_,_,rfl,zv⟩:=yj
       exact aC G qf ⟨_,_,_,_,rfl,zv⟩
      ·intro Ai qd
       have o:Bl lb w Ai:=H.ext qd
       refine a8 (dM G (z:= .agg #[F0,S0]) (vs:= [F0,S0]) (fun _=>by kernel_rfl) G fun _ _ nb=>?_)
       exact aC G nb.ext ⟨_,rfl,by rw [←nb.at_];exact qd.size,nb.bk⟩
      ·intro Cy au
       have o:Bl lb w Cy:=H.ext au
       refine dk G G (dk G G (dk G G (dk G G (dk G G (dk G G (dk G G (dk G G (aT G G fun _ _ Dn _ vf=>?_))))))))
       obtain⟨_,_,_,_,rfl,qu⟩:=Dn
       have qu:=qu.ext vf
       refine dk G G (dk G G (dk G G (dk G G (dk G G (aT G G fun _ _ xc _ xu=>?_)))))
       obtain⟨_,_,_,_,rfl,px⟩:=xc
       have px:=px.ext xu
       refine aT G G fun _ _ vv _ Ft=>?_
       obtain⟨jf,ir,jh,iv,rfl,il⟩:=vv
       have il:=il.ext Ft
       refine aT G G fun _ _ Dh _ Fh=>?_
       obtain⟨fq,rfl,bh,ah⟩:=Dh
       have ah:=ah.ext Fh
       have Ia:bj<fq:=cJ b_g488.lt bh
       have ry:∀p:a6,RA=some p→p.block≠fq:=fun p hp=>by have:=((o_RAwj).block p hp).2;have:=bh;omega
       have uj:∀p:a6,NA=some p→p.block≠fq:=fun p hp=>by have:=((o_NAwj).block p hp).2;have:=bh;omega
       have jr:∀r,r<n→∀p:a6,ra r=some p→p.block≠fq:=fun r hr p hp=>by have:=((rc_wj).lt r hr p hp).2;have:=bh;omega
       have bh:w.heap.size≤fq:=a7 H.size bh
       refine a8 (fC G G G aG G ah (bq G) G (a4 jf ir jh iv) G fun Dr ua ai _=>?_)
       have I:Bl lb w Dr:=o.upd ai (a7 hlb bh)
       refine aS (dA (aM ?_))
       have hq:=ez.quot hI.last hI.ne (by rw [ez.old (aI _) (by omega) (aI _) (by omega) (bE G)];exact ks) (by omega) (by omega) kg gx (hM.old (a:=k+1+t) (b:=k) (by omega) (by omega) (aI _) (by omega) (bK (bK ⟨rfl,bE rfl⟩)))
       have uv:ln (bm (pr X qs) (k+1) (k+1+t) j)≤17179869184:=a7 (D9 hn (t7 hI.per hX) (by omega) (by omega) gx) (by decide)
       obtain⟨mg,_,_,_,_,ie,_,_,_⟩:=(((rc_wj.ext au).updT ah ai jr)).at (hI.per.lt (k+1+t) (by omega)) (show j<n by omega)
       refine dP cF 12 [9,10] [Is (By (ra (qs.getD (k+1+t) 0)) n (rc (qs.getD (k+1+t) 0))),Is (AI j),Is (O jf ir jh iv),Is (a9 g 0),Is (a9 g 0),Is (a9 g 3),Is (O sl Al nl cl),T2 (ZR w.heap.size (bm (pr X qs) (k+1) (k+1+t) j)) (Is (AI 0)),T2 (ZR w.heap.size (bm (pr X qs) (k+1) (k+1+t) j)) (Is (AI 0)),ZR w.heap.size (bm (pr X qs) (k+1) (k+1+t) j),Is (AI 0),Is (.pointer (some mg))] [[],[],[],[],[3],[4],[5],[2,6],[7],[8],[8],[0,1]] [[],[],[],[],[3],[3,4],[3,4,5],[2,3,4,5,6],[2,3,4,5,6,7],[2,3,4,5,6,7,8],[2,3,4,5,6,7,8],[0,1,2,3,4,5,6,7,8,9],[0,1,2,3,4,5,6,7,8,9,11]] rfl
        (aD G G (aA G G ?_) (aD G G (aA G G ?_) (aD G G (aA G G ?_) (aD G G (aA G G ?_) (aD G G (aA G G ?_) (aD G G (aA G G ?_) (aD G G (aA G G ?_) (aD G G (aA G G ?_) (aD G G (aA G G ?_) (gH G G (gM G ?_) (gH G G (gM G ?_) (aD G G (aA G G ?_) dF)))))))))))) ?_
       ·intro Cu vz
        have J:Bl lb w Cu:=I.ext vz
        refine a8 (mv 1 G ?_)
        exact aC G aB rfl
       ·intro xx De
        have J:Bl lb w xx:=I.ext De
        refine a8 (mv 1 G ?_)
        exact aC G aB rfl
       ·intro Fo ow
        have J:Bl lb w Fo:=I.ext ow
        refine a8 (lo aG (ua.ext ow) (a4 jf ir jh iv) G G G ?_)
        exact aC G aB rfl
       ·intro vq zz
        have J:Bl lb w vq:=I.ext zz
        refine a8 (mv 1 G ?_)
        exact aC G aB rfl
       ·intro xr zx
        have J:Bl lb w xr:=I.ext zx
        refine dk G G (a8 (pf g 0 G ?_))
        exact aC G aB rfl
       ·intro Fb yd
        have J:Bl lb w Fb:=I.ext yd
        refine dk G G (a8 (pf g 3 G ?_))
        exact aC G aB rfl
       ·intro Bu ph
        have J:Bl lb w Bu:=I.ext ph
        refine dk G G (a8 (lo aG (((b_g.ext au).vN ai).ext ph) (a4 sl Al nl cl) G G G ?_))
        exact aC G aB rfl
       ·intro yf mh
        have J:Bl lb w yf:=I.ext mh
        refine dk G G (dk G G (a8 (bR G G (vs:= [O jf ir jh iv,O sl Al nl cl]) (by kernel_rfl) (by decide) ((qM J.size ((il.updT ah ai).ext mh).zi (il.le (aZ Eh G)) (((z_g_1.ext au).updT ah ai).ext mh).zi (z_g_1.le (aZ Fj G)) hI.ne ⟨_,hq.1⟩).mono (Gv.imp (T2.imp (fun _ _ h=>ZR.cast h hq.2) Is.imp))) ?_)))
        rintro _ xt ⟨_,rfl,Ge,oh⟩
        refine bL ?_
        have fz:Bl lb w xt:=J.ext oh
        obtain⟨_,_,rfl,⟨_,_,_,_,rfl,wg⟩,rfl⟩:=Ge
        exact aC G oh ⟨_,_,rfl,⟨_,_,_,_,rfl,wg⟩,rfl⟩
       ·intro vr Aw
        have J:Bl lb w vr:=I.ext Aw
        refine aT G G fun _ _ zo _ Bw=>?_
        obtain⟨_,_,rfl,⟨_,_,_,_,rfl,ko⟩,rfl⟩:=zo
        have ko:=ko.ext Bw
        refine a8 (mv 1 G ?_)
        exact aC G aB ⟨_,_,rfl,⟨_,_,_,_,rfl,ko⟩,rfl⟩
       ·intro yo Ac
        have J:Bl lb w yo:=I.ext Ac
        refine aT G G fun _ _ zy _ Ba=>?_
        obtain⟨_,_,rfl,⟨Er,ym,Cv,va,rfl,lh⟩,rfl⟩:=zy
        have lh:=lh.ext Ba
        refine a8 ?_
        exact⟨O Er ym Cv va,rfl,rfl,fun _=>by kernel_rfl,⟨_,_,_,_,rfl,lh⟩⟩
       ·intro Cs Fu
        have J:Bl lb w Cs:=I.ext Fu
        refine aT G G fun _ _ Cl _ Dj=>?_
        obtain⟨_,_,rfl,⟨_,_,_,_,rfl,pw⟩,rfl⟩:=Cl
        have pw:=pw.ext Dj
        refine a8 ?_
        exact⟨AI 0,rfl,rfl,fun _=>by kernel_rfl,rfl⟩
       ·intro Bi yl
        have J:Bl lb w Bi:=I.ext yl
        refine dk G G (dk G G (a8 (aX G G G bM aG.size j G mg ie ?_)))
        exact aC G aB rfl
       ·intro Ci cn
        have J:Bl lb w Ci:=I.ext cn
        refine dk G G (dk G G (dk G G (dk G G (dk G G (dk G G (dk G G (aT G G fun _ _ xl _ Fl=>?_)))))))
        obtain⟨_,_,rfl,⟨_,_,_,_,rfl,ri⟩,rfl⟩:=xl
        have ri:=ri.ext Fl
        refine aT G G fun _ _ ye _ Dp=>?_
        obtain⟨_,_,rfl,⟨_,_,_,_,rfl,rj⟩,rfl⟩:=ye
        have rj:=rj.ext Dp
        refine aT G G fun _ _ yu _ ww=>?_
        obtain⟨yg,Bx,yb,zj,rfl,iy⟩:=yu
        have iy:=iy.ext ww
        refine dk G G (dk G G (a8 ?_))
        have ju:=(((rc_wj.ext au).updT ah ai jr).ext cn)
        obtain⟨_,fb⟩:=ju.own (hI.per.lt (k+1+t) (by omega))
        refine pR (e:=⟨yg,Bx,yb,zj⟩) (z:=bm (pr X qs) (k+1) (k+1+t) j) G G G ju (hI.per.lt (k+1+t) (by omega)) (show j<n by omega) ie (Zr.mono iy (bX _)) (iy.le (aZ uv G)) fun ro tg bc=>?_
        have fz:Bl lb w ro:=J.updO bc (fun p hp=>(fb.block p hp).1)
        refine aS (dA (cC (aM (aL (mv 1 G (bC G G G ((j+1:Nat):Int) (bW (a:=j) (b:=1) G G) (mv 1 G (aS (cB (⟨ro,j+1,ent V (qs.getD (k+1+t) 0) j (bm (pr X qs) (k+1) (k+1+t) j)⟩:a0×Nat×Mx) ⟨fz,(by omega),((((b_g.ext au).vN ai).ext cn).updO bc (hA.rg (qs.getD (k+1+t) 0) (hI.per.lt (k+1+t) (by omega)))),((((z_g_1.ext au).updT ah ai).ext cn).updOT fb bc),((((b_g488.ext au).vN ai).ext cn).updO bc (ma (qs.getD (k+1+t) 0) (hI.per.lt (k+1+t) (by omega)))),((((z_g488.ext au).updT ah ai).ext cn).updOT fb bc),((((o_RAwj.ext au).upd ai ry).ext cn).updO bc (fun p q hp hq e=>hA.Rr (qs.getD (k+1+t) 0) (hI.per.lt (k+1+t) (by omega)) q p hq hp e.symm)),((((o_NAwj.ext au).upd ai uj).ext cn).updO bc (fun p q hp hq e=>hA.Nr (qs.getD (k+1+t) 0) (hI.per.lt (k+1+t) (by omega)) q p hq hp e.symm)),tg,(by omega),(ez.next hI.per (by omega) (by omega) kg gx G)⟩ (show n-(j+1)<n-j by omega) G ⟨rfl,rfl,rfl,rfl,rfl,rfl,rfl,rfl,rfl,rfl,rfl,rfl,rfl,rfl,rfl,rfl,rfl,rfl,rfl,rfl,rfl,rfl,rfl,rfl,rfl,rfl,rfl,rfl,rfl,rfl,rfl,rfl,rfl,rfl,rfl,rfl,rfl,rfl,rfl,rfl,rfl,rfl,rfl,rfl,rfl,rfl,rfl,rfl,rfl,rfl,rfl,rfl,rfl,rfl,rfl,rfl,rfl,rfl,rfl,rfl,rfl,rfl,rfl,rfl,rfl,rfl,rfl,rfl,rfl,rfl,Ht⟩)))))))))
     ·refine aL (mv 2 G (pu (v:= AI n) G (aN G G G false (dK (a:=j) (b:=n) G G) (aE (aY G (cM (cK (cT (cL (aM (aL (mv 2 G (pu (v:= .agg #[F0,S0]) G ?_)))))))))))))
      obtain⟨ti,_,_,_,_,ji,_,_,_⟩:=(rc_wj).at (hI.per.lt (k+1+t) (by omega)) (show k<n by omega)
      refine aX G G G bM aG.size k G ti ji ?_
      have kp:=rc_wj
      obtain⟨_,jk⟩:=kp.own (hI.per.lt (k+1+t) (by omega))
      refine pR (e:=⟨false,none,0,0⟩) (z:=0) G G G kp (hI.per.lt (k+1+t) (by omega)) (show k<n by omega) ji (Zr.mono (Zr.zero (w:=wj) (base:=w.heap.size)) (bX _)) (bX _) fun rm tw dc=>?_
      have o:Bl lb w rm:=H.updO dc (fun p hp=>(jk.block p hp).1)
      refine aS (cC (aM (aL (bC G G G ((t+1:Nat):Int) (bW (a:=t) (b:=1) G G) (mv 1 G (aS (cB (⟨rm,t+1,ent V (qs.getD (k+1+t) 0) k 0⟩:a0×Nat×Mx) ⟨o,(by omega),(b_g.updO dc (hA.rg (qs.getD (k+1+t) 0) (hI.per.lt (k+1+t) (by omega)))),(z_g_1.updOT jk dc),(o_RAwj.updO dc (fun p q hp hq e=>hA.Rr (qs.getD (k+1+t) 0) (hI.per.lt (k+1+t) (by omega)) q p hq hp e.symm)),(o_NAwj.updO dc (fun p q hp hq e=>hA.Nr (qs.getD (k+1+t) 0) (hI.per.lt (k+1+t) (by omega)) q p hq hp e.symm)),tw,(by have h9:Mid n k (pr X qs) qs V (k+1+t) n:=(show j=n by omega)▸ez;exact h9.row hI.per (by omega) (by omega) 0)⟩ (show (n-(k+1))-(t+1)<(n-(k+1))-t by omega) G ⟨rfl,rfl,rfl,rfl,rfl,rfl,rfl,rfl,rfl,rfl,rfl,rfl,rfl,rfl,rfl,rfl,rfl,rfl,rfl,rfl,rfl,rfl,rfl,rfl,rfl,rfl,rfl,rfl,rfl,rfl,rfl,rfl,rfl,rfl,rfl,rfl,rfl,rfl,rfl,rfl,rfl,rfl,rfl,rfl,rfl,rfl,rfl,rfl,rfl,rfl,rfl,rfl,rfl,rfl,rfl,rfl,rfl,rfl,Ht⟩)))))))
    ·refine aL (aN G G G false (dK (a:=t) (b:=n-(k+1)) G G) (aE (aH (aY G (cM (cK (cT (cL (aM (sr (mv 3 G ?_)))))))))))
     obtain⟨ui,jo,lw,jx,ml,nt,nw,_,tj⟩:=(rc_wt).at (hI.per.lt k (by omega)) (show k<n by omega)
     refine aX G G G bM aG.size k G ui nt (aK G G (nw _ aB _ _ aG) (pf g 0 G (pf g 3 G ?_)))
     have ia:=b_g
     refine fC G G G aG G ia (bq G) G [By RA n rcap,By NA n ncap,.bool tu,.bool jo,By lw jx ml,AI k] G fun wq fd ft _=>?_
     have o:Bl lb w wq:=H.upd ft hA.lg
     refine aE (sr (mv 1 G (pf g 0 G (pf g 5 G (aK G G (aQ bV fd G) (bC G G G ((k+1:Nat):Int) (bW (a:=k) (b:=1) G G) (pf g 0 G (pf g 5 G (jC G G G nE G fd (bq G) G [By RA n rcap,By NA n ncap,.bool tu,.bool jo,By lw jx ml,AI ((k+1:Nat):Int)] G fun vh um fk _=>?_)))))))))
     have I:Bl lb w vh:=o.upd fk hA.lg
     refine aE (sr (mv 1 G (aE (bG (bF [BY] G ⟨rfl,Ht⟩ ?_)))))
     have li:Mid n k (pr X qs) qs Y n (k+1):=(show k+1+t=n by omega)▸hM
     exact⟨I,bK ⟨qs,Y,tu,Y (qs.getD k 0) k,rfl,⟨_,_,_,_,_,um,((tj.updT ia ft).updT fd fk),((o_RAwt.upd ft hA.Rg).upd fk hA.Rg),((o_NAwt.upd ft hA.Ng).upd fk hA.Ng),((rc_wt.updT ia ft hA.rg).updT fd fk hA.rg)⟩,hI.next (by omega) li (by rw [li.old (aI _) (by omega) (aI _) (by omega) (bE G)];exact ks)⟩⟩
 ·refine aL (mv 2 G (pf g 0 G (pf g 0 G (aK G G (aQ cG b_g G) (pu (v:= AI n) G (aN G G G false (dK (a:=p) (b:=n) G G) (mv 13 G (pu (v:= Hs) G (aE (aY G (cM (cK (cT ?_)))))))))))))
  refine cL (aM (aH (sr (mv 2 G (pf g 0 G (pf g 0 G (aK G G (aQ cG b_g G) (pu (v:= AI n) G (aN G G G true (kD (a:=p) (b:=n) G G) (aE (bJ G (sr (mv 1 G ?_)))))))))))))
  refine aE (bG (dZ (bF [F0] G ⟨rfl,Ht⟩ ?_)))
  exact⟨H,bE ⟨rfl,fun i h1 h2=>Em i h1 (by omega)⟩⟩
section
variable {P:bP}{Q:cE→Act→a0→Prop}{n:Nat}{l:Fr}{w:a0}{ops:Array aP}{rest:List aP}{d:Nat}{ty:aO}{pos:String}{af:Array eR}{gd:Option (Nat×Bool)}
end
theorem Lz.updY (h:Lz m K b w lb A n cap zs)(hb:Bk w g T us)(x:Upd g w w')(hI:41≠T:=by decide)(hT:45≠T:=by decide):Lz m K b w' lb A n cap zs:=by
 obtain⟨es,H,J,I,o⟩:=h
 exact⟨es,H.updT hb hI x,J,I,fun i hi=>⟨(o i hi).1,(o i hi).2.updT hb x hT⟩⟩
end
end Go.Proofs.YtnpbbknemflpnaaGreat
