/- Parts Pl6, Bm0, Bm1, Bm2, Bm3, Bm4, Seg, Bm5, Pl6b, Bm6, Bm7, joined. -/
import Derived.Test.YtkkabncicmhjfaaGreatS6

open Go renaming Addr → aG, Calls → aQ, TypeId → aU, Value → aI, World → a7
open List renaming getD_eq_getElem?_getD → bE, getElem?_eq_getElem → cA, getElem?_eq_some_iff → fD, getElem?_map → fY, length_append → fH, map_cons → kH, map_nil → lH, mem_append → pH, mem_map → m6, mem_range → fN, range → dB
open Nat renaming le_refl → aS, le_trans → a6, lt_of_lt_of_le → d4, mul_one → eG, zero_add → eX, zero_le → bJ
open Or renaming inl → bS, inr → bW
open Go.Proofs.Tryz renaming prog → aM
namespace Go.Proofs.YtkkabncicmhjfaaGreat
set_option maxHeartbeats 16000000
set_option maxRecDepth 20000
variable {A AL AM AW AX Aa Aap Aaq Ab Abp Abq Ad Adp Adq Ae B Bp Bq C L WA:Option aG}{K M N a b b' b1 b2 c c1 c2 cX ca cap cb cd dp dq e g hi j lb m n n1 n2 na nd ne wc:Nat}{T t:aU}{ds ms ms2 xs:List Nat}{es:List ZC}{iv v:aI}{s sa sap saq sb sbp sbq sd sdp sdq se:Bool}{u x y z:Int}{us vs ws:List aI}{w:a7}{ys zs:List Int}
open Go.RowKit
theorem j7:AggT aM 30 11:=⟨fun _=>by kernel_rfl,fun _=>by kernel_rfl⟩
theorem bU:AggT aM 45 8:=⟨fun _=>by kernel_rfl,fun _=>by kernel_rfl⟩
def Op6 (w:a7)(k x y z u:Int)(zs ys:List Int)(n1 n2:Nat)(v:aI):Prop:=
 ∃sa Aa na ca sb Ab nb cb sd Ad nd cd se Ae ne ce A c1 ms C c2 ms2,v= .agg #[v4 k,.bool sa,AT Aa na ca,.bool sb,AT Ab nb cb,.bool sd,AT Ad nd cd,.bool se,AT Ae ne ce,AT A n1 c1,AT C n2 c2]∧
  Zi w sa Aa na ca x∧na≤1048576∧Zi w sb Ab nb cb y∧nb≤1048576∧Zi w sd Ad nd cd z∧nd≤1048576∧Zi w se Ae ne ce u∧ne≤1048576∧Zl w A n1 c1 zs ms∧ms.sum≤1048576∧Zl w C n2 c2 ys ms2∧ms2.sum≤1048576∧n1≤1048576∧n2≤1048576
theorem Op6.ext {w':a7}{k:Int}(h:Op6 w k x y z u zs ys n1 n2 v)(e:Ext w w'):Op6 w' k x y z u zs ys n1 n2 v:=by
 obtain⟨sa,Aa,na,ca,sb,Ab,nb,cb,sd,Ad,nd,cd,se,Ae,ne,ce,A,c1,ms,C,_,_,rfl,L,D,q,F,E,M,U,H,I,o,p,f⟩:=h
 exact⟨_,_,_,_,_,_,_,_,_,_,_,_,_,_,_,_,_,_,_,_,_,_,rfl,L.ext e,D,q.ext e,F,E.ext e,M,U.ext e,H,I.ext e,o,p.ext e,f⟩
structure Ans6 where
 X:Int
 Y:Int
 Z:Int
 n:Nat
 L:List Int
 E:Int
def AnsR6 (b:Nat)(t:Ans6)(v:aI)(w:a7):Prop:=
 ∃s A n c s' A' n' c' s2 A2 n2 c2 B d,v= .agg #[.bool s,AT A n c,.bool s',AT A' n' c',.bool s2,AT A2 n2 c2,AT B t.n d,v4 t.E]∧Zr w b s A n c t.X∧Zr w b s' A' n' c' t.Y∧Zr w b s2 A2 n2 c2 t.Z∧Lz none 8388608 b w b B t.n d t.L∧ln t.X≤1099511627776∧ln t.Y≤1099511627776∧ln t.Z≤1099511627776
theorem AnsR6.of {t t':Ans6}(h:t'=t)(k:AnsR6 b t v w):AnsR6 b t' v w:=h▸k
theorem AnsR6.imp {t:Ans6}(h:b'≤b):∀v w,AnsR6 b t v w→AnsR6 b' t v w:=fun _ _ ⟨s,A,n,c,s',A',n',c',H,f,n2,I,B,d,o,D,p,F,E,q⟩=>⟨s,A,n,c,s',A',n',c',H,f,n2,I,B,d,o,D.mono h,p.mono h,F.mono h,E.mono (aS _) h h,q⟩
def qP (A B:Option aG):Prop:=∀p q,A=some p→B=some q→p.block≠q.block
def AnsA6 (b:Nat)(t:Ans6)(v:aI)(w:a7):Prop:=
 ∃s A n c s' A' n' c' s2 A2 n2 c2 B d,v= .agg #[.bool s,AT A n c,.bool s',AT A' n' c',.bool s2,AT A2 n2 c2,AT B t.n d,v4 t.E]∧Zr w b s A n c t.X∧Zr w b s' A' n' c' t.Y∧Zr w b s2 A2 n2 c2 t.Z∧Ld 8388608 b (fun g=>∀p,A=some p∨A'=some p∨A2=some p→p.block≠g) w b B t.n d t.L∧ln t.X≤1099511620000∧ln t.Y≤1099511620000∧ln t.Z≤1099511620000∧qP A A'∧qP A A2∧qP A' A2
theorem AnsA6.of {t t':Ans6}(h:t'=t)(k:AnsA6 b t v w):AnsA6 b t' v w:=h▸k
theorem AnsA6.imp {t:Ans6}(h:b'≤b):∀v w,AnsA6 b t v w→AnsA6 b' t v w:=fun _ _ ⟨s,A,n,c,s',A',n',c',H,f,n2,I,B,d,o,D,p,F,E,q⟩=>⟨s,A,n,c,s',A',n',c',H,f,n2,I,B,d,o,D.mono h,p.mono h,F.mono h,E.mono (aS _) h h,q⟩
noncomputable def d8 (k x y z u:Int)(zs ys:List Int)(n1 n2:Nat):Ans6:=
 if k=1 then ⟨(Int.gcd x y:Int),0,0,0,[],0⟩ else if k=2 then ⟨bQ zs,0,0,0,[],0⟩ else if k=3 then ⟨(Int.lcm x y:Int),0,0,0,[],0⟩ else if k=4 then ⟨(Int.gcd x y:Int),eO x y,gJ x y,0,[],0⟩ else
 if k=5 then ⟨bQ zs,0,0,n1,oT zs.reverse,0⟩ else if k=6 then ⟨j2 x y,0,0,0,[],fR x y⟩ else if k=7 then ⟨iZ x y z,0,0,0,[],fP y z⟩ else if k=8 then ⟨j4 x y z u,j5 x y z u,0,0,[],fV x y z u⟩ else
 if k=9 then ⟨iJ zs ys n1 n2,iK zs ys n1 n2,0,0,[],eC zs ys n1 n2⟩ else ⟨0,0,0,0,[],0⟩
theorem mH:Lz none K b w lb none 0 0 []:=Lz.nil _ _ _ _ _
theorem uJ (h:(zs.map ln).sum≤1048576):ln (bQ zs)≤1048576:=by
 have f:∀i,ln (zs.getD i 0)≤1048576:=fun i=>by
  have e:ln (zs.getD i 0)=(zs.map ln).getD i 0:=by
   simp only [bE,fY]
   cases zs[i]? <;> simp [ln,kT]
  rw [e];exact a6 (gR _ _) h
 have:=gZ f zs.length
 rwa [List.take_length] at this
theorem PW {k:Int}{nb:Nat}{ce:Nat}(hx:Zi w sa Aa na ca x)(la:na≤1048576)(hy:Zi w sb Ab nb cb y)(lb:nb≤1048576)(hz:Zi w sd Ad nd cd z)(ld:nd≤1048576)(hu:Zi w se Ae ne ce u)(le:ne≤1048576)(hl:Zl w A n1 c1 zs ms)(hs:ms.sum≤1048576)(hl2:Zl w C n2 c2 ys ms2)(hs2:ms2.sum≤1048576)(hn1:n1≤1048576)(hn2:n2≤1048576):aQ aM 14 #[.agg #[v4 k,.bool sa,AT Aa na ca,.bool sb,AT Ab nb cb,.bool sd,AT Ad nd cd,.bool se,AT Ae ne ce,AT A n1 c1,AT C n2 c2]] w (Gv w (AnsA6 w.heap.size (d8 k x y z u zs ys n1 n2))):=by
 have Lx:ln x≤1048576:=a6 hx.ln la
 have Ly:ln y≤1048576:=a6 hy.ln lb
 have Lz:ln z≤1048576:=a6 hz.ln ld
 have Lu:ln u≤1048576:=a6 hu.ln le
 have jf:=a6 (kJ hl) hs
 have gk:=a6 (kJ hl2) hs2
 refine bP Tryz.func14 G (n:=111) G (bq G) (args:= [.agg #[v4 k,.bool sa,AT Aa na ca,.bool sb,AT Ab nb cb,.bool sd,AT Ad nd cd,.bool se,AT Ae ne ce,AT A n1 c1,AT C n2 c2]]) (bH [(0,.agg #[v4 k,.bool sa,AT Aa na ca,.bool sb,AT Ab nb cb,.bool sd,AT Ad nd cd,.bool se,AT Ae ne ce,AT A n1 c1,AT C n2 c2])] ⟨rfl,Fo⟩ (sr (bx [v4 k,.bool sa,AT Aa na ca,.bool sb,AT Ab nb cb,.bool sd,AT Ad nd cd,.bool se,AT Ae ne ce,AT A n1 c1,AT C n2 c2] (Ext.refl w) G G G fun g1 _ D _ _ mo=>(bF [F0,S0,F0,S0,F0,S0,S0,I0] mo D.lt (fun _=>by kernel_rfl) G fun g6 _ aj U _ e8 my=>(aA (sr (bF [F0,S0,F0,S0,F0,S0,S0,I0] my aj.lt (fun _=>by kernel_rfl) G fun H E L q _ o f=>(aA (aH (sr (pf g1 0 G (aP G G (bA (fun _=>by kernel_rfl) (D.ext (e8.t o)) G) (aR ?_)))))))))))))
 refine aK (bG (aH ?_))
 by_cases ak:k=1
 ·refine aJ (aN G G G true (fS ak) (mv 1 G (aA (bB G (aJ (pf g1 1 G (lo a8 (D.ext (e8.t o)) (O sa Aa na ca) G G G (pf g1 3 G (lo a8 (D.ext (e8.t o)) (O sb Ab nb cb) G G G ?_)))))))))
  have mh:ln ((Int.gcd x y:Int))≤1048576:=a6 (fK _ _) (Nat.max_le.2 ⟨Lx,Ly⟩)
  refine cl (vs:= [J sa Aa na ca,J sb Ab nb cb]) f (yH f.size (hx.ext f) (aL la G) (hy.ext f) (aL lb G)) G (by kernel_rfl) fun _ _ mx iz F=>?_
  obtain⟨ge,gg,gf,gi,rfl,nh⟩:=mx
  refine pf H 0 G ?_
  have fk:=(L.ext iz)
  refine so a8 fk [.bool ge,AT gg gf gi,F0,S0,F0,S0,S0,I0] F q G G G G fun _ kf il I=>(aR (bM (aK (sr (lo bU kf [.bool ge,AT gg gf gi,F0,S0,F0,S0,S0,I0] G G G ?_)))))
  have ew:=((aj.ext (o.t iz)).vN il)
  refine so bU ew [.bool ge,AT gg gf gi,F0,S0,F0,S0,S0,I0] I U G G G G fun _ lv jx M=>(aA (bD (bC [.agg #[.bool ge,AT gg gf gi,F0,S0,F0,S0,S0,I0]] G ⟨⟨_,rfl,aW bU lv [.bool ge,AT gg gf gi,F0,S0,F0,S0,S0,I0] G (bq G) rfl⟩,Fo⟩ ?_)))
  have hs:d8 k x y z u zs ys n1 n2=⟨(Int.gcd x y:Int),0,0,0,[],0⟩:=by unfold d8;rw [if_pos ak]
  exact⟨_,rfl,AnsA6.of hs ⟨_,_,_,_,_,_,_,_,_,_,_,_,_,_,rfl,((nh.updT fk il).updT ew jx),((((Zr.zero (w:=E) (base:=w.heap.size)).ext iz).updT fk il).updT ew jx),((((Zr.zero (w:=E) (base:=w.heap.size)).ext iz).updT fk il).updT ew jx),(Ld.nil _ _ _ _ _),(aL mh G),(a6 (by decide:ln 0≤0) (by decide)),(a6 (by decide:ln 0≤0) (by decide)),(fun _ _ _ h=>nomatch h),(fun _ _ _ h=>nomatch h),(fun _ _ h=>nomatch h)⟩,M⟩
 ·refine aJ (aN G G G false (fT ak) (mv 1 G (aA (aV G (aH ?_)))))
  by_cases aw:k=2
  ·refine aJ (aN G G G true (fS aw) (mv 1 G (aA (bB G (aJ (pf g1 9 G (aP G G (bA (fun _=>by kernel_rfl) (D.ext (e8.t o)) G) ?_)))))))
   have mg:ln (bQ zs)≤1048576:=uJ jf
   refine cl (vs:= [AT A n1 c1]) f (KB f.size (hl.ext f) hn1 hs) G (by kernel_rfl) fun _ _ ml je F=>?_
   obtain⟨ib,gt,ie,ga,rfl,mw⟩:=ml
   refine pf H 0 G ?_
   have ep:=(L.ext je)
   refine so a8 ep [.bool ib,AT gt ie ga,F0,S0,F0,S0,S0,I0] F q G G G G fun _ kk iq I=>(aR (bM (aK (sr (lo bU kk [.bool ib,AT gt ie ga,F0,S0,F0,S0,S0,I0] G G G ?_)))))
   have fc:=((aj.ext (o.t je)).vN iq)
   refine so bU fc [.bool ib,AT gt ie ga,F0,S0,F0,S0,S0,I0] I U G G G G fun _ kw jj M=>(aA (bD (bC [.agg #[.bool ib,AT gt ie ga,F0,S0,F0,S0,S0,I0]] G ⟨⟨_,rfl,aW bU kw [.bool ib,AT gt ie ga,F0,S0,F0,S0,S0,I0] G (bq G) rfl⟩,Fo⟩ ?_)))
   have hs:d8 k x y z u zs ys n1 n2=⟨bQ zs,0,0,0,[],0⟩:=by unfold d8;rw [if_neg ak,if_pos aw]
   exact⟨_,rfl,AnsA6.of hs ⟨_,_,_,_,_,_,_,_,_,_,_,_,_,_,rfl,((mw.updT ep iq).updT fc jj),((((Zr.zero (w:=E) (base:=w.heap.size)).ext je).updT ep iq).updT fc jj),((((Zr.zero (w:=E) (base:=w.heap.size)).ext je).updT ep iq).updT fc jj),(Ld.nil _ _ _ _ _),(aL mg G),(a6 (by decide:ln 0≤0) (by decide)),(a6 (by decide:ln 0≤0) (by decide)),(fun _ _ _ h=>nomatch h),(fun _ _ _ h=>nomatch h),(fun _ _ h=>nomatch h)⟩,M⟩
  ·refine aJ (aN G G G false (fT aw) (mv 1 G (aA (aV G (aH ?_)))))
   by_cases ch:k=3
   ·refine aJ (aN G G G true (fS ch) (mv 1 G (aA (bB G (aJ (pf g1 1 G (lo a8 (D.ext (e8.t o)) (O sa Aa na ca) G G G (pf g1 3 G (lo a8 (D.ext (e8.t o)) (O sb Ab nb cb) G G G ?_)))))))))
    have mu:ln ((Int.lcm x y:Int))≤2097152:=a6 (q9 _ _) (Nat.add_le_add Lx Ly)
    refine cl (vs:= [J sa Aa na ca,J sb Ab nb cb]) f (FB f.size (hx.ext f) (aL la G) (hy.ext f) (aL lb G)) G (by kernel_rfl) fun _ _ ni jd F=>?_
    obtain⟨fz,ij,gx,gb,rfl,ng⟩:=ni
    refine pf H 0 G ?_
    have ej:=(L.ext jd)
    refine so a8 ej [.bool fz,AT ij gx gb,F0,S0,F0,S0,S0,I0] F q G G G G fun _ lh ix I=>(aR (bM (aK (sr (lo bU lh [.bool fz,AT ij gx gb,F0,S0,F0,S0,S0,I0] G G G ?_)))))
    have fm:=((aj.ext (o.t jd)).vN ix)
    refine so bU fm [.bool fz,AT ij gx gb,F0,S0,F0,S0,S0,I0] I U G G G G fun _ kx jo M=>(aA (bD (bC [.agg #[.bool fz,AT ij gx gb,F0,S0,F0,S0,S0,I0]] G ⟨⟨_,rfl,aW bU kx [.bool fz,AT ij gx gb,F0,S0,F0,S0,S0,I0] G (bq G) rfl⟩,Fo⟩ ?_)))
    have hs:d8 k x y z u zs ys n1 n2=⟨(Int.lcm x y:Int),0,0,0,[],0⟩:=by unfold d8;rw [if_neg ak,if_neg aw,if_pos ch]
    exact⟨_,rfl,AnsA6.of hs ⟨_,_,_,_,_,_,_,_,_,_,_,_,_,_,rfl,((ng.updT ej ix).updT fm jo),((((Zr.zero (w:=E) (base:=w.heap.size)).ext jd).updT ej ix).updT fm jo),((((Zr.zero (w:=E) (base:=w.heap.size)).ext jd).updT ej ix).updT fm jo),(Ld.nil _ _ _ _ _),(aL mu G),(a6 (by decide:ln 0≤0) (by decide)),(a6 (by decide:ln 0≤0) (by decide)),(fun _ _ _ h=>nomatch h),(fun _ _ _ h=>nomatch h),(fun _ _ h=>nomatch h)⟩,M⟩
   ·refine aJ (aN G G G false (fT ch) (mv 1 G (aA (aV G (aH ?_)))))
    by_cases cv:k=4
    ·refine aJ (aN G G G true (fS cv) (mv 1 G (aA (bB G (aJ (pf g1 1 G (lo a8 (D.ext (e8.t o)) (O sa Aa na ca) G G G (pf g1 3 G (lo a8 (D.ext (e8.t o)) (O sb Ab nb cb) G G G ?_)))))))))
     have mz:ln ((Int.gcd x y:Int))≤1048576:=a6 (fK _ _) (Nat.max_le.2 ⟨Lx,Ly⟩)
     have mq:ln (eO x y)≤1048577:=(iR x y).ln_u Lx Ly
     have mr:ln (gJ x y)≤1048577:=(iR x y).ln_v Lx Ly
     refine cl (vs:= [J sa Aa na ca,J sb Ab nb cb]) f (KD f.size (hx.ext f) (aL la G) (hy.ext f) (aL lb G)) G (by kernel_rfl) fun _ _ mn kn F=>?_
     obtain⟨_,_,_,rfl,⟨dv,dl,dm,dn,rfl,mt⟩,⟨eg,ee,dz,ef,rfl,mi⟩,⟨fq,fp,ft,fo,rfl,mp⟩,io,iy,ip⟩:=mn
     refine mv 1 G (pu (v:= J dv dl dm dn) G (pu (v:= J eg ee dz ef) G (pu (v:= J fq fp ft fo) G (pf H 0 G ?_))))
     have ey:=(L.ext kn)
     refine so a8 ey [.bool dv,AT dl dm dn,F0,S0,F0,S0,S0,I0] F q G G G G fun _ fi jc I=>(pf H 2 G (so a8 fi [.bool dv,AT dl dm dn,.bool eg,AT ee dz ef,F0,S0,S0,I0] I q G G G G fun _ fb jb M=>(pf H 4 G (so a8 fb [.bool dv,AT dl dm dn,.bool eg,AT ee dz ef,.bool fq,AT fp ft fo,S0,I0] M q G G G G fun _ mb ir br=>(aR (bM (aK (sr (lo bU mb [.bool dv,AT dl dm dn,.bool eg,AT ee dz ef,.bool fq,AT fp ft fo,S0,I0] G G G ?_)))))))))
     have fg:=((((aj.ext (o.t kn)).vN jc).vN jb).vN ir)
     refine so bU fg [.bool dv,AT dl dm dn,.bool eg,AT ee dz ef,.bool fq,AT fp ft fo,S0,I0] br U G G G G fun _ lp jy fw=>(aA (bD (bC [.agg #[.bool dv,AT dl dm dn,.bool eg,AT ee dz ef,.bool fq,AT fp ft fo,S0,I0]] G ⟨⟨_,rfl,aW bU lp [.bool dv,AT dl dm dn,.bool eg,AT ee dz ef,.bool fq,AT fp ft fo,S0,I0] G (bq G) rfl⟩,Fo⟩ ?_)))
     have hs:d8 k x y z u zs ys n1 n2=⟨(Int.gcd x y:Int),eO x y,gJ x y,0,[],0⟩:=by unfold d8;rw [if_neg ak,if_neg aw,if_neg ch,if_pos cv]
     exact⟨_,rfl,AnsA6.of hs ⟨_,_,_,_,_,_,_,_,_,_,_,_,_,_,rfl,((((mt.updT ey jc).updT fi jb).updT fb ir).updT fg jy),((((mi.updT ey jc).updT fi jb).updT fb ir).updT fg jy),((((mp.updT ey jc).updT fi jb).updT fb ir).updT fg jy),(Ld.nil _ _ _ _ _),(aL mz G),(aL mq G),(aL mr G),(fun _ _ hp hq e=>io _ (iH hp) (e▸iH hq)),(fun _ _ hp hq e=>iy _ (iH hp) (e▸iH hq)),(fun _ _ hp hq e=>ip _ (iH hp) (e▸iH hq))⟩,fw⟩
    ·refine aJ (aN G G G false (fT cv) (mv 1 G (aA (aV G (aH ?_)))))
     by_cases dw:k=5
     ·refine aJ (aN G G G true (fS dw) (mv 1 G (aA (bB G (aJ (pf g1 9 G (aP G G (bA (fun _=>by kernel_rfl) (D.ext (e8.t o)) G) ?_)))))))
      have nt:g1<E.heap.size:=(D.ext (e8.t o)).lt
      have nl:g6<E.heap.size:=(aj.ext o).lt
      have np:H<E.heap.size:=L.lt
      have kz:w.heap.size≤E.heap.size:=f.size
      have mm:ln (bQ zs)≤1048576:=uJ jf
      refine cl (vs:= [AT A n1 c1]) f (KC f.size (aS _) (hl.ext f) hn1 hs) G (by kernel_rfl) fun _ _ mj ja F=>?_
      obtain⟨ba,ao,au,bi,ck,ci,rfl,lm,bd⟩:=mj
      have jg:=bd.lz
      have mf:=jg.block
      refine mv 1 G (pu (v:= J ba ao au bi) G (pu (v:= AT ck n1 ci) G (pf H 0 G ?_)))
      have V:=(L.ext ja)
      refine so a8 V [.bool ba,AT ao au bi,F0,S0,F0,S0,S0,I0] F q G G G G fun _ X dx I=>(pf H 6 G (eJ G G G (fun _=>by kernel_rfl) G X (bq G) G [.bool ba,AT ao au bi,F0,S0,F0,S0,AT ck n1 ci,I0] G fun _ jp cj _=>?_))
      have M:=cj.ext I q
      refine aR (bM (aK (sr (lo bU jp [.bool ba,AT ao au bi,F0,S0,F0,S0,AT ck n1 ci,I0] G G G ?_))))
      have W:=(((aj.ext (o.t ja)).vN dx).vN cj)
      refine so bU W [.bool ba,AT ao au bi,F0,S0,F0,S0,AT ck n1 ci,I0] M U G G G G fun _ jm eh br=>(aA (bD (bC [.agg #[.bool ba,AT ao au bi,F0,S0,F0,S0,AT ck n1 ci,I0]] G ⟨⟨_,rfl,aW bU jm [.bool ba,AT ao au bi,F0,S0,F0,S0,AT ck n1 ci,I0] G (bq G) rfl⟩,Fo⟩ ?_)))
      have hs:d8 k x y z u zs ys n1 n2=⟨bQ zs,0,0,n1,oT zs.reverse,0⟩:=by unfold d8;rw [if_neg ak,if_neg aw,if_neg ch,if_neg cv,if_pos dw]
      exact⟨_,rfl,AnsA6.of hs ⟨_,_,_,_,_,_,_,_,_,_,_,_,_,_,rfl,(((lm.updT V dx).updT X cj).updT W eh),(((((Zr.zero (w:=E) (base:=w.heap.size)).ext ja).updT V dx).updT X cj).updT W eh),(((((Zr.zero (w:=E) (base:=w.heap.size)).ext ja).updT V dx).updT X cj).updT W eh),(((((bd.updT V dx (fun p hp=>by have h1:=bd.block p hp;have h2:=(V).lt;omega)).updT X cj (fun p hp=>by have h1:=bd.block p hp;have h2:=(X).lt;omega)).updT W eh (fun p hp=>by have h1:=bd.block p hp;have h2:=(W).lt;omega)).mono (aS _) (aS _) kz).imp (fun g h p hp=>by rcases hp with hp | hp | hp <;> first | exact h p hp | cases hp)),(aL mm rfl),(a6 (by decide:ln 0≤0) (by decide)),(a6 (by decide:ln 0≤0) (by decide)),(fun _ _ _ h=>nomatch h),(fun _ _ _ h=>nomatch h),(fun _ _ h=>nomatch h)⟩,br⟩
     ·refine aJ (aN G G G false (fT dw) (mv 1 G (aA (aV G (aH ?_)))))
      by_cases dy:k=6
      ·refine aJ (aN G G G true (fS dy) (mv 1 G (aA (bB G (aJ (pf g1 1 G (lo a8 (D.ext (e8.t o)) (O sa Aa na ca) G G G (pf g1 3 G (lo a8 (D.ext (e8.t o)) (O sb Ab nb cb) G G G ?_)))))))))
       have ll:ln (j2 x y)≤1048577:=E0 Lx Ly
       refine cl (vs:= [J sa Aa na ca,J sb Ab nb cb]) f (KA f.size (hx.ext f) (aL la G) (hy.ext f) (aL lb G)) G (by kernel_rfl) fun _ _ me fd F=>?_
       obtain⟨_,_,rfl,⟨bc,aq,bm,bt,rfl,lu⟩,rfl⟩:=me
       refine mv 1 G (pu (v:= J bc aq bm bt) G (pu (v:= v4 (fR x y)) G (pf H 0 G ?_)))
       have cm:=(L.ext fd)
       refine so a8 cm [.bool bc,AT aq bm bt,F0,S0,F0,S0,S0,I0] F q G G G G fun _ cu ez I=>(pf H 7 G (eJ G G G (fun _=>by kernel_rfl) G cu (bq G) G [.bool bc,AT aq bm bt,F0,S0,F0,S0,S0,v4 (fR x y)] G fun _ jv dr _=>?_))
       have M:=dr.ext I q
       refine aR (bM (aK (sr (lo bU jv [.bool bc,AT aq bm bt,F0,S0,F0,S0,S0,v4 (fR x y)] G G G ?_))))
       have de:=(((aj.ext (o.t fd)).vN ez).vN dr)
       refine so bU de [.bool bc,AT aq bm bt,F0,S0,F0,S0,S0,v4 (fR x y)] M U G G G G fun _ ju go br=>(aA (bD (bC [.agg #[.bool bc,AT aq bm bt,F0,S0,F0,S0,S0,v4 (fR x y)]] G ⟨⟨_,rfl,aW bU ju [.bool bc,AT aq bm bt,F0,S0,F0,S0,S0,v4 (fR x y)] G (bq G) rfl⟩,Fo⟩ ?_)))
       have hs:d8 k x y z u zs ys n1 n2=⟨j2 x y,0,0,0,[],fR x y⟩:=by unfold d8;rw [if_neg ak,if_neg aw,if_neg ch,if_neg cv,if_neg dw,if_pos dy]
       exact⟨_,rfl,AnsA6.of hs ⟨_,_,_,_,_,_,_,_,_,_,_,_,_,_,rfl,(((lu.updT cm ez).updT cu dr).updT de go),(((((Zr.zero (w:=E) (base:=w.heap.size)).ext fd).updT cm ez).updT cu dr).updT de go),(((((Zr.zero (w:=E) (base:=w.heap.size)).ext fd).updT cm ez).updT cu dr).updT de go),(Ld.nil _ _ _ _ _),(aL ll G),(a6 (by decide:ln 0≤0) (by decide)),(a6 (by decide:ln 0≤0) (by decide)),(fun _ _ _ h=>nomatch h),(fun _ _ _ h=>nomatch h),(fun _ _ h=>nomatch h)⟩,br⟩
      ·refine aJ (aN G G G false (fT dy) (mv 1 G (aA (aV G (aH ?_)))))
       by_cases fv:k=7
       ·refine aJ (aN G G G true (fS fv) (mv 1 G (aA (bB G (aJ (pf g1 1 G (lo a8 (D.ext (e8.t o)) (O sa Aa na ca) G G G (pf g1 3 G (lo a8 (D.ext (e8.t o)) (O sb Ab nb cb) G G G (pf g1 5 G (lo a8 (D.ext (e8.t o)) (O sd Ad nd cd) G G G ?_)))))))))))
        have kv:ln (iZ x y z)≤1048576:=DZ Lz
        refine cl (vs:= [J sa Aa na ca,J sb Ab nb cb,J sd Ad nd cd]) f (K9 f.size (hx.ext f) (aL la G) (hy.ext f) (aL lb G) (hz.ext f) (aL ld G)) G (by kernel_rfl) fun _ _ kt ei F=>?_
        obtain⟨_,_,rfl,⟨bh,bj,bu,bf,rfl,ky⟩,rfl⟩:=kt
        refine mv 1 G (pu (v:= J bh bj bu bf) G (pu (v:= v4 (fP y z)) G (pf H 0 G ?_)))
        have cx:=(L.ext ei)
        refine so a8 cx [.bool bh,AT bj bu bf,F0,S0,F0,S0,S0,I0] F q G G G G fun _ cy fe I=>(pf H 7 G (eJ G G G (fun _=>by kernel_rfl) G cy (bq G) G [.bool bh,AT bj bu bf,F0,S0,F0,S0,S0,v4 (fP y z)] G fun _ ji du _=>?_))
        have M:=du.ext I q
        refine aR (bM (aK (sr (lo bU ji [.bool bh,AT bj bu bf,F0,S0,F0,S0,S0,v4 (fP y z)] G G G ?_))))
        have co:=(((aj.ext (o.t ei)).vN fe).vN du)
        refine so bU co [.bool bh,AT bj bu bf,F0,S0,F0,S0,S0,v4 (fP y z)] M U G G G G fun _ jh fy br=>(aA (bD (bC [.agg #[.bool bh,AT bj bu bf,F0,S0,F0,S0,S0,v4 (fP y z)]] G ⟨⟨_,rfl,aW bU jh [.bool bh,AT bj bu bf,F0,S0,F0,S0,S0,v4 (fP y z)] G (bq G) rfl⟩,Fo⟩ ?_)))
        have hs:d8 k x y z u zs ys n1 n2=⟨iZ x y z,0,0,0,[],fP y z⟩:=by unfold d8;rw [if_neg ak,if_neg aw,if_neg ch,if_neg cv,if_neg dw,if_neg dy,if_pos fv]
        exact⟨_,rfl,AnsA6.of hs ⟨_,_,_,_,_,_,_,_,_,_,_,_,_,_,rfl,(((ky.updT cx fe).updT cy du).updT co fy),(((((Zr.zero (w:=E) (base:=w.heap.size)).ext ei).updT cx fe).updT cy du).updT co fy),(((((Zr.zero (w:=E) (base:=w.heap.size)).ext ei).updT cx fe).updT cy du).updT co fy),(Ld.nil _ _ _ _ _),(aL kv G),(a6 (by decide:ln 0≤0) (by decide)),(a6 (by decide:ln 0≤0) (by decide)),(fun _ _ _ h=>nomatch h),(fun _ _ _ h=>nomatch h),(fun _ _ h=>nomatch h)⟩,br⟩
       ·refine aJ (aN G G G false (fT fv) (mv 1 G (aA (aV G (aH ?_)))))
        by_cases ia:k=8
        ·refine aJ (aN G G G true (fS ia) (mv 1 G (aA (bB G (aJ (pf g1 1 G (lo a8 (D.ext (e8.t o)) (O sa Aa na ca) G G G (pf g1 3 G (lo a8 (D.ext (e8.t o)) (O sb Ab nb cb) G G G (pf g1 5 G (lo a8 (D.ext (e8.t o)) (O sd Ad nd cd) G G G (pf g1 7 G (lo a8 (D.ext (e8.t o)) (O se Ae ne ce) G G G ?_)))))))))))))
         have md:ln (j4 x y z u)≤2097152:=E1 Ly Lu
         have lj:ln (j5 x y z u)≤2097152:=E2 Ly Lu
         refine cl (vs:= [J sa Aa na ca,J sb Ab nb cb,J sd Ad nd cd,J se Ae ne ce]) f (KF f.size (hx.ext f) (aL la G) (hy.ext f) (aL lb G) (hz.ext f) (aL ld G) (hu.ext f) (aL le G)) G (by kernel_rfl) fun _ _ ki fx F=>?_
         obtain⟨_,_,_,rfl,⟨Z,Y,ah,ag,rfl,ko⟩,⟨bo,az,ar,an,rfl,kc⟩,rfl,jl⟩:=ki
         refine mv 1 G (pu (v:= J Z Y ah ag) G (pu (v:= J bo az ar an) G (pu (v:= v4 (fV x y z u)) G (pf H 0 G ?_))))
         have cz:=(L.ext fx)
         refine so a8 cz [.bool Z,AT Y ah ag,F0,S0,F0,S0,S0,I0] F q G G G G fun _ da el I=>(pf H 2 G (so a8 da [.bool Z,AT Y ah ag,.bool bo,AT az ar an,F0,S0,S0,I0] I q G G G G fun _ dg fh M=>(pf H 7 G (eJ G G G (fun _=>by kernel_rfl) G dg (bq G) G [.bool Z,AT Y ah ag,.bool bo,AT az ar an,F0,S0,S0,v4 (fV x y z u)] G fun _ jr dh _=>?_))))
         have br:=dh.ext M q
         refine aR (bM (aK (sr (lo bU jr [.bool Z,AT Y ah ag,.bool bo,AT az ar an,F0,S0,S0,v4 (fV x y z u)] G G G ?_))))
         have ct:=((((aj.ext (o.t fx)).vN el).vN fh).vN dh)
         refine so bU ct [.bool Z,AT Y ah ag,.bool bo,AT az ar an,F0,S0,S0,v4 (fV x y z u)] br U G G G G fun _ jq ig fw=>(aA (bD (bC [.agg #[.bool Z,AT Y ah ag,.bool bo,AT az ar an,F0,S0,S0,v4 (fV x y z u)]] G ⟨⟨_,rfl,aW bU jq [.bool Z,AT Y ah ag,.bool bo,AT az ar an,F0,S0,S0,v4 (fV x y z u)] G (bq G) rfl⟩,Fo⟩ ?_)))
         have hs:d8 k x y z u zs ys n1 n2=⟨j4 x y z u,j5 x y z u,0,0,[],fV x y z u⟩:=by unfold d8;rw [if_neg ak,if_neg aw,if_neg ch,if_neg cv,if_neg dw,if_neg dy,if_neg fv,if_pos ia]
         exact⟨_,rfl,AnsA6.of hs ⟨_,_,_,_,_,_,_,_,_,_,_,_,_,_,rfl,((((ko.updT cz el).updT da fh).updT dg dh).updT ct ig),((((kc.updT cz el).updT da fh).updT dg dh).updT ct ig),((((((Zr.zero (w:=E) (base:=w.heap.size)).ext fx).updT cz el).updT da fh).updT dg dh).updT ct ig),(Ld.nil _ _ _ _ _),(aL md G),(aL lj G),(a6 (by decide:ln 0≤0) (by decide)),(fun _ _ hp hq e=>jl _ (iH hp) (e▸iH hq)),(fun _ _ _ h=>nomatch h),(fun _ _ _ h=>nomatch h)⟩,fw⟩
        ·refine aJ (aN G G G false (fT ia) (mv 1 G (aA (aV G (aH ?_)))))
         by_cases iu:k=9
         ·refine aJ (aN G G G true (fS iu) (mv 1 G (aA (bB G (aJ (pf g1 9 G (aP G G (bA (fun _=>by kernel_rfl) (D.ext (e8.t o)) G) (pf g1 10 G (aP G G (bA (fun _=>by kernel_rfl) (D.ext (e8.t o)) G) ?_)))))))))
          have lg:ln (iJ zs ys n1 n2)≤1048577:=E3 hl2.len gk
          have kq:ln (iK zs ys n1 n2)≤1048577:=E4 gk
          refine cl (vs:= [AT A n1 c1,AT C n2 c2]) f (KE f.size (hl.ext f) (hl2.ext f) hn1 hn2 hs hs2) G (by kernel_rfl) fun _ _ kj gj F=>?_
          obtain⟨_,_,_,rfl,⟨ae,ab,ai,aa,rfl,ku⟩,⟨am,bg,bp,av,rfl,ma⟩,rfl,jt⟩:=kj
          refine mv 1 G (pu (v:= J ae ab ai aa) G (pu (v:= J am bg bp av) G (pu (v:= v4 (eC zs ys n1 n2)) G (pf H 0 G ?_))))
          have dc:=(L.ext gj)
          refine so a8 dc [.bool ae,AT ab ai aa,F0,S0,F0,S0,S0,I0] F q G G G G fun _ cn fa I=>(pf H 2 G (so a8 cn [.bool ae,AT ab ai aa,.bool am,AT bg bp av,F0,S0,S0,I0] I q G G G G fun _ df fj M=>(pf H 7 G (eJ G G G (fun _=>by kernel_rfl) G df (bq G) G [.bool ae,AT ab ai aa,.bool am,AT bg bp av,F0,S0,S0,v4 (eC zs ys n1 n2)] G fun _ jw dt _=>?_))))
          have br:=dt.ext M q
          refine aR (bM (aK (sr (lo bU jw [.bool ae,AT ab ai aa,.bool am,AT bg bp av,F0,S0,S0,v4 (eC zs ys n1 n2)] G G G ?_))))
          have dd:=((((aj.ext (o.t gj)).vN fa).vN fj).vN dt)
          refine so bU dd [.bool ae,AT ab ai aa,.bool am,AT bg bp av,F0,S0,S0,v4 (eC zs ys n1 n2)] br U G G G G fun _ jk ik fw=>(aA (bD (bC [.agg #[.bool ae,AT ab ai aa,.bool am,AT bg bp av,F0,S0,S0,v4 (eC zs ys n1 n2)]] G ⟨⟨_,rfl,aW bU jk [.bool ae,AT ab ai aa,.bool am,AT bg bp av,F0,S0,S0,v4 (eC zs ys n1 n2)] G (bq G) rfl⟩,Fo⟩ ?_)))
          have hs:d8 k x y z u zs ys n1 n2=⟨iJ zs ys n1 n2,iK zs ys n1 n2,0,0,[],eC zs ys n1 n2⟩:=by unfold d8;rw [if_neg ak,if_neg aw,if_neg ch,if_neg cv,if_neg dw,if_neg dy,if_neg fv,if_neg ia,if_pos iu]
          exact⟨_,rfl,AnsA6.of hs ⟨_,_,_,_,_,_,_,_,_,_,_,_,_,_,rfl,((((ku.updT dc fa).updT cn fj).updT df dt).updT dd ik),((((ma.updT dc fa).updT cn fj).updT df dt).updT dd ik),((((((Zr.zero (w:=E) (base:=w.heap.size)).ext gj).updT dc fa).updT cn fj).updT df dt).updT dd ik),(Ld.nil _ _ _ _ _),(aL lg G),(aL kq G),(a6 (by decide:ln 0≤0) (by decide)),(fun _ _ hp hq e=>jt _ (iH hp) (e▸iH hq)),(fun _ _ _ h=>nomatch h),(fun _ _ _ h=>nomatch h)⟩,fw⟩
         ·refine aJ (aN G G G false (fT iu) (mv 1 G (aA (aV G (b8 (bM (aK (sr (lo bU L [F0,S0,F0,S0,F0,S0,S0,I0] G G G ?_)))))))))
          have cp:=(aj.ext o)
          refine so bU cp [F0,S0,F0,S0,F0,S0,S0,I0] f U G G G G fun _ jz gy F=>(aA (bD (bC [.agg #[F0,S0,F0,S0,F0,S0,S0,I0]] G ⟨⟨_,rfl,aW bU jz [F0,S0,F0,S0,F0,S0,S0,I0] G (bq G) rfl⟩,Fo⟩ ?_)))
          have hs:d8 k x y z u zs ys n1 n2=⟨0,0,0,0,[],0⟩:=by unfold d8;rw [if_neg ak,if_neg aw,if_neg ch,if_neg cv,if_neg dw,if_neg dy,if_neg fv,if_neg ia,if_neg iu]
          exact⟨_,rfl,AnsA6.of hs ⟨_,_,_,_,_,_,_,_,_,_,_,_,_,_,rfl,((Zr.zero (w:=E) (base:=w.heap.size)).updT cp gy),((Zr.zero (w:=E) (base:=w.heap.size)).updT cp gy),((Zr.zero (w:=E) (base:=w.heap.size)).updT cp gy),(Ld.nil _ _ _ _ _),(a6 (by decide:ln 0≤0) (by decide)),(a6 (by decide:ln 0≤0) (by decide)),(a6 (by decide:ln 0≤0) (by decide)),(fun _ _ h=>nomatch h),(fun _ _ h=>nomatch h),(fun _ _ h=>nomatch h)⟩,F⟩
theorem PX (hb:b≤w.heap.size){k:Int}(h:Op6 w k x y z u zs ys n1 n2 v):aQ aM 14 #[v] w (Gv w (AnsA6 b (d8 k x y z u zs ys n1 n2))):=by
 obtain⟨sa,Aa,na,ca,sb,Ab,nb,cb,sd,Ad,nd,cd,se,Ae,ne,ce,A,c1,ms,C,_,_,rfl,U,F,E,I,H,V,W,L,M,p,q,f,D,o⟩:=h
 exact (PW U F E I H V W L M p q f D o).mono (Gv.imp (AnsA6.imp hb))
theorem P1 {k:Int}{nb:Nat}{ce:Nat}(hx:Zi w sa Aa na ca x)(la:na≤1048576)(hy:Zi w sb Ab nb cb y)(lb:nb≤1048576)(hz:Zi w sd Ad nd cd z)(ld:nd≤1048576)(hu:Zi w se Ae ne ce u)(le:ne≤1048576)(hl:Zl w A n1 c1 zs ms)(hs:ms.sum≤1048576)(hl2:Zl w C n2 c2 ys ms2)(hs2:ms2.sum≤1048576)(hn1:n1≤1048576)(hn2:n2≤1048576):aQ aM 13 #[.agg #[v4 k,.bool sa,AT Aa na ca,.bool sb,AT Ab nb cb,.bool sd,AT Ad nd cd,.bool se,AT Ae ne ce,AT A n1 c1,AT C n2 c2]] w (Gv w (AnsR6 w.heap.size (d8 k x y z u zs ys n1 n2))):=by
 have Lx:ln x≤1048576:=a6 hx.ln la
 have Ly:ln y≤1048576:=a6 hy.ln lb
 have Lz:ln z≤1048576:=a6 hz.ln ld
 have Lu:ln u≤1048576:=a6 hu.ln le
 have ja:=a6 (kJ hl) hs
 have gk:=a6 (kJ hl2) hs2
 refine bP Tryz.func13 G (n:=111) G (bq G) (args:= [.agg #[v4 k,.bool sa,AT Aa na ca,.bool sb,AT Ab nb cb,.bool sd,AT Ad nd cd,.bool se,AT Ae ne ce,AT A n1 c1,AT C n2 c2]]) (bH [(0,.agg #[v4 k,.bool sa,AT Aa na ca,.bool sb,AT Ab nb cb,.bool sd,AT Ad nd cd,.bool se,AT Ae ne ce,AT A n1 c1,AT C n2 c2])] ⟨rfl,Fo⟩ (sr (bx [v4 k,.bool sa,AT Aa na ca,.bool sb,AT Ab nb cb,.bool sd,AT Ad nd cd,.bool se,AT Ae ne ce,AT A n1 c1,AT C n2 c2] (Ext.refl w) G G G fun g1 _ q _ _ md=>(bF [F0,S0,F0,S0,F0,S0,S0,I0] md q.lt (fun _=>by kernel_rfl) G fun g6 _ ae M _ e8 mo=>(aA (sr (bF [F0,S0,F0,S0,F0,S0,S0,I0] mo ae.lt (fun _=>by kernel_rfl) G fun F D I o _ h f=>(aA (aH (sr (pf g1 0 G (aP G G (bA (fun _=>by kernel_rfl) (q.ext (e8.t h)) G) (aR ?_)))))))))))))
 refine aK (bG (aH ?_))
 by_cases ag:k=1
 ·refine aJ (aN G G G true (fS ag) (mv 1 G (aA (bB G (aJ (pf g1 1 G (lo a8 (q.ext (e8.t h)) (O sa Aa na ca) G G G (pf g1 3 G (lo a8 (q.ext (e8.t h)) (O sb Ab nb cb) G G G ?_)))))))))
  have mf:ln ((Int.gcd x y:Int))≤1048576:=a6 (fK _ _) (Nat.max_le.2 ⟨Lx,Ly⟩)
  refine cl (vs:= [J sa Aa na ca,J sb Ab nb cb]) f (nO f.size (hx.ext f) (aL la G) (hy.ext f) (aL lb G)) G (by kernel_rfl) fun _ _ mm ir E=>?_
  obtain⟨ge,gg,gf,gi,rfl,mr⟩:=mm
  refine pf F 0 G ?_
  have fh:=(I.ext ir)
  refine so a8 fh [.bool ge,AT gg gf gi,F0,S0,F0,S0,S0,I0] E o G G G G fun _ jt ik H=>(aR (bM (aK (sr (lo bU jt [.bool ge,AT gg gf gi,F0,S0,F0,S0,S0,I0] G G G ?_)))))
  have ew:=((ae.ext (h.t ir)).vN ik)
  refine so bU ew [.bool ge,AT gg gf gi,F0,S0,F0,S0,S0,I0] H M G G G G fun _ lg jo L=>(aA (bD (bC [.agg #[.bool ge,AT gg gf gi,F0,S0,F0,S0,S0,I0]] G ⟨⟨_,rfl,aW bU lg [.bool ge,AT gg gf gi,F0,S0,F0,S0,S0,I0] G (bq G) rfl⟩,Fo⟩ ?_)))
  have hs:d8 k x y z u zs ys n1 n2=⟨(Int.gcd x y:Int),0,0,0,[],0⟩:=by unfold d8;rw [if_pos ag]
  exact⟨_,rfl,AnsR6.of hs ⟨_,_,_,_,_,_,_,_,_,_,_,_,_,_,rfl,((mr.updT fh ik).updT ew jo),((((Zr.zero (w:=D) (base:=w.heap.size)).ext ir).updT fh ik).updT ew jo),((((Zr.zero (w:=D) (base:=w.heap.size)).ext ir).updT fh ik).updT ew jo),mH,(aL mf G),(a6 (by decide:ln 0≤0) (by decide)),(a6 (by decide:ln 0≤0) (by decide))⟩,L⟩
 ·refine aJ (aN G G G false (fT ag) (mv 1 G (aA (aV G (aH ?_)))))
  by_cases aq:k=2
  ·refine aJ (aN G G G true (fS aq) (mv 1 G (aA (bB G (aJ (pf g1 9 G (aP G G (bA (fun _=>by kernel_rfl) (q.ext (e8.t h)) G) ?_)))))))
   have lp:ln (bQ zs)≤1048576:=uJ ja
   refine cl (vs:= [AT A n1 c1]) f (K4 f.size (hl.ext f) hn1 hs) G (by kernel_rfl) fun _ _ lv iz E=>?_
   obtain⟨ib,go,ie,ia,rfl,mj⟩:=lv
   refine pf F 0 G ?_
   have ei:=(I.ext iz)
   refine so a8 ei [.bool ib,AT go ie ia,F0,S0,F0,S0,S0,I0] E o G G G G fun _ jx il H=>(aR (bM (aK (sr (lo bU jx [.bool ib,AT go ie ia,F0,S0,F0,S0,S0,I0] G G G ?_)))))
   have fc:=((ae.ext (h.t iz)).vN il)
   refine so bU fc [.bool ib,AT go ie ia,F0,S0,F0,S0,S0,I0] H M G G G G fun _ kc jd L=>(aA (bD (bC [.agg #[.bool ib,AT go ie ia,F0,S0,F0,S0,S0,I0]] G ⟨⟨_,rfl,aW bU kc [.bool ib,AT go ie ia,F0,S0,F0,S0,S0,I0] G (bq G) rfl⟩,Fo⟩ ?_)))
   have hs:d8 k x y z u zs ys n1 n2=⟨bQ zs,0,0,0,[],0⟩:=by unfold d8;rw [if_neg ag,if_pos aq]
   exact⟨_,rfl,AnsR6.of hs ⟨_,_,_,_,_,_,_,_,_,_,_,_,_,_,rfl,((mj.updT ei il).updT fc jd),((((Zr.zero (w:=D) (base:=w.heap.size)).ext iz).updT ei il).updT fc jd),((((Zr.zero (w:=D) (base:=w.heap.size)).ext iz).updT ei il).updT fc jd),mH,(aL lp G),(a6 (by decide:ln 0≤0) (by decide)),(a6 (by decide:ln 0≤0) (by decide))⟩,L⟩
  ·refine aJ (aN G G G false (fT aq) (mv 1 G (aA (aV G (aH ?_)))))
   by_cases bv:k=3
   ·refine aJ (aN G G G true (fS bv) (mv 1 G (aA (bB G (aJ (pf g1 1 G (lo a8 (q.ext (e8.t h)) (O sa Aa na ca) G G G (pf g1 3 G (lo a8 (q.ext (e8.t h)) (O sb Ab nb cb) G G G ?_)))))))))
    have mi:ln ((Int.lcm x y:Int))≤2097152:=a6 (q9 _ _) (Nat.add_le_add Lx Ly)
    refine cl (vs:= [J sa Aa na ca,J sb Ab nb cb]) f (PB f.size (hx.ext f) (aL la G) (hy.ext f) (aL lb G)) G (by kernel_rfl) fun _ _ mt iy E=>?_
    obtain⟨fv,ij,gt,ga,rfl,mq⟩:=mt
    refine pf F 0 G ?_
    have ef:=(I.ext iy)
    refine so a8 ef [.bool fv,AT ij gt ga,F0,S0,F0,S0,S0,I0] E o G G G G fun _ ko iq H=>(aR (bM (aK (sr (lo bU ko [.bool fv,AT ij gt ga,F0,S0,F0,S0,S0,I0] G G G ?_)))))
    have fi:=((ae.ext (h.t iy)).vN iq)
    refine so bU fi [.bool fv,AT ij gt ga,F0,S0,F0,S0,S0,I0] H M G G G G fun _ ki jf L=>(aA (bD (bC [.agg #[.bool fv,AT ij gt ga,F0,S0,F0,S0,S0,I0]] G ⟨⟨_,rfl,aW bU ki [.bool fv,AT ij gt ga,F0,S0,F0,S0,S0,I0] G (bq G) rfl⟩,Fo⟩ ?_)))
    have hs:d8 k x y z u zs ys n1 n2=⟨(Int.lcm x y:Int),0,0,0,[],0⟩:=by unfold d8;rw [if_neg ag,if_neg aq,if_pos bv]
    exact⟨_,rfl,AnsR6.of hs ⟨_,_,_,_,_,_,_,_,_,_,_,_,_,_,rfl,((mq.updT ef iq).updT fi jf),((((Zr.zero (w:=D) (base:=w.heap.size)).ext iy).updT ef iq).updT fi jf),((((Zr.zero (w:=D) (base:=w.heap.size)).ext iy).updT ef iq).updT fi jf),mH,(aL mi G),(a6 (by decide:ln 0≤0) (by decide)),(a6 (by decide:ln 0≤0) (by decide))⟩,L⟩
   ·refine aJ (aN G G G false (fT bv) (mv 1 G (aA (aV G (aH ?_)))))
    by_cases cz:k=4
    ·refine aJ (aN G G G true (fS cz) (mv 1 G (aA (bB G (aJ (pf g1 1 G (lo a8 (q.ext (e8.t h)) (O sa Aa na ca) G G G (pf g1 3 G (lo a8 (q.ext (e8.t h)) (O sb Ab nb cb) G G G ?_)))))))))
     have mp:ln ((Int.gcd x y:Int))≤1048576:=a6 (fK _ _) (Nat.max_le.2 ⟨Lx,Ly⟩)
     have ml:ln (eO x y)≤1048577:=(iR x y).ln_u Lx Ly
     have mg:ln (gJ x y)≤1048577:=(iR x y).ln_v Lx Ly
     refine cl (vs:= [J sa Aa na ca,J sb Ab nb cb]) f (K6 f.size (hx.ext f) (aL la G) (hy.ext f) (aL lb G)) G (by kernel_rfl) fun _ _ mb jy E=>?_
     obtain⟨_,_,_,rfl,⟨dr,dg,dh,dl,rfl,mh⟩,⟨ee,dy,dx,dz,rfl,mn⟩,⟨fo,fm,fp,fk,rfl,me⟩⟩:=mb
     refine mv 1 G (pu (v:= J dr dg dh dl) G (pu (v:= J ee dy dx dz) G (pu (v:= J fo fm fp fk) G (pf F 0 G ?_))))
     have ep:=(I.ext jy)
     refine so a8 ep [.bool dr,AT dg dh dl,F0,S0,F0,S0,S0,I0] E o G G G G fun _ fg ix H=>(pf F 2 G (so a8 fg [.bool dr,AT dg dh dl,.bool ee,AT dy dx dz,F0,S0,S0,I0] H o G G G G fun _ fb iw L=>(pf F 4 G (so a8 fb [.bool dr,AT dg dh dl,.bool ee,AT dy dx dz,.bool fo,AT fm fp fk,S0,I0] L o G G G G fun _ lj io bm=>(aR (bM (aK (sr (lo bU lj [.bool dr,AT dg dh dl,.bool ee,AT dy dx dz,.bool fo,AT fm fp fk,S0,I0] G G G ?_)))))))))
     have fe:=((((ae.ext (h.t jy)).vN ix).vN iw).vN io)
     refine so bU fe [.bool dr,AT dg dh dl,.bool ee,AT dy dx dz,.bool fo,AT fm fp fk,S0,I0] bm M G G G G fun _ ky jq ft=>(aA (bD (bC [.agg #[.bool dr,AT dg dh dl,.bool ee,AT dy dx dz,.bool fo,AT fm fp fk,S0,I0]] G ⟨⟨_,rfl,aW bU ky [.bool dr,AT dg dh dl,.bool ee,AT dy dx dz,.bool fo,AT fm fp fk,S0,I0] G (bq G) rfl⟩,Fo⟩ ?_)))
     have hs:d8 k x y z u zs ys n1 n2=⟨(Int.gcd x y:Int),eO x y,gJ x y,0,[],0⟩:=by unfold d8;rw [if_neg ag,if_neg aq,if_neg bv,if_pos cz]
     exact⟨_,rfl,AnsR6.of hs ⟨_,_,_,_,_,_,_,_,_,_,_,_,_,_,rfl,((((mh.updT ep ix).updT fg iw).updT fb io).updT fe jq),((((mn.updT ep ix).updT fg iw).updT fb io).updT fe jq),((((me.updT ep ix).updT fg iw).updT fb io).updT fe jq),mH,(aL mp G),(aL ml G),(aL mg G)⟩,ft⟩
    ·refine aJ (aN G G G false (fT cz) (mv 1 G (aA (aV G (aH ?_)))))
     by_cases du:k=5
     ·refine aJ (aN G G G true (fS du) (mv 1 G (aA (bB G (aJ (pf g1 9 G (aP G G (bA (fun _=>by kernel_rfl) (q.ext (e8.t h)) G) ?_)))))))
      have mx:g1<D.heap.size:=(q.ext (e8.t h)).lt
      have mu:g6<D.heap.size:=(ae.ext h).lt
      have mw:F<D.heap.size:=I.lt
      have kk:w.heap.size≤D.heap.size:=f.size
      have ma:ln (bQ zs)≤1048576:=uJ ja
      refine cl (vs:= [AT A n1 c1]) f (K5 f.size (aS _) (hl.ext f) hn1 hs) G (by kernel_rfl) fun _ _ lu iu E=>?_
      obtain⟨_,_,rfl,⟨av,ai,az,ah,rfl,lh⟩,⟨cg,bz,rfl,fw⟩⟩:=lu
      have ci:=fw.block
      refine mv 1 G (pu (v:= J av ai az ah) G (pu (v:= AT cg n1 bz) G (pf F 0 G ?_)))
      have bh:=(I.ext iu)
      refine so a8 bh [.bool av,AT ai az ah,F0,S0,F0,S0,S0,I0] E o G G G G fun _ aj dn H=>(pf F 6 G (eJ G G G (fun _=>by kernel_rfl) G aj (bq G) G [.bool av,AT ai az ah,F0,S0,F0,S0,AT cg n1 bz,I0] G fun _ jk ch _=>?_))
      have L:=ch.ext H o
      refine aR (bM (aK (sr (lo bU jk [.bool av,AT ai az ah,F0,S0,F0,S0,AT cg n1 bz,I0] G G G ?_))))
      have br:=(((ae.ext (h.t iu)).vN dn).vN ch)
      refine so bU br [.bool av,AT ai az ah,F0,S0,F0,S0,AT cg n1 bz,I0] L M G G G G fun _ jp eh bm=>(aA (bD (bC [.agg #[.bool av,AT ai az ah,F0,S0,F0,S0,AT cg n1 bz,I0]] G ⟨⟨_,rfl,aW bU jp [.bool av,AT ai az ah,F0,S0,F0,S0,AT cg n1 bz,I0] G (bq G) rfl⟩,Fo⟩ ?_)))
      have hs:d8 k x y z u zs ys n1 n2=⟨bQ zs,0,0,n1,oT zs.reverse,0⟩:=by unfold d8;rw [if_neg ag,if_neg aq,if_neg bv,if_neg cz,if_pos du]
      exact⟨_,rfl,AnsR6.of hs ⟨_,_,_,_,_,_,_,_,_,_,_,_,_,_,rfl,(((lh.updT bh dn).updT aj ch).updT br eh),(((((Zr.zero (w:=D) (base:=w.heap.size)).ext iu).updT bh dn).updT aj ch).updT br eh),(((((Zr.zero (w:=D) (base:=w.heap.size)).ext iu).updT bh dn).updT aj ch).updT br eh),(((((fw.updT bh dn (fun p hp=>by have:=ci p hp;omega)).updT aj ch (fun p hp=>by have:=ci p hp;omega)).updT br eh (fun p hp=>by have:=ci p hp;omega))).mono (aS _) (aS _) kk),(aL ma G),(a6 (by decide:ln 0≤0) (by decide)),(a6 (by decide:ln 0≤0) (by decide))⟩,bm⟩
     ·refine aJ (aN G G G false (fT du) (mv 1 G (aA (aV G (aH ?_)))))
      by_cases dw:k=6
      ·refine aJ (aN G G G true (fS dw) (mv 1 G (aA (bB G (aJ (pf g1 1 G (lo a8 (q.ext (e8.t h)) (O sa Aa na ca) G G G (pf g1 3 G (lo a8 (q.ext (e8.t h)) (O sb Ab nb cb) G G G ?_)))))))))
       have jw:ln (j2 x y)≤1048577:=E0 Lx Ly
       refine cl (vs:= [J sa Aa na ca,J sb Ab nb cb]) f (K3 f.size (hx.ext f) (aL la G) (hy.ext f) (aL lb G)) G (by kernel_rfl) fun _ _ jz ej E=>?_
       obtain⟨_,_,rfl,⟨au,am,bg,ak,rfl,kq⟩,rfl⟩:=jz
       refine mv 1 G (pu (v:= J au am bg ak) G (pu (v:= v4 (fR x y)) G (pf F 0 G ?_)))
       have dc:=(I.ext ej)
       refine so a8 dc [.bool au,AT am bg ak,F0,S0,F0,S0,S0,I0] E o G G G G fun _ cx el H=>(pf F 7 G (eJ G G G (fun _=>by kernel_rfl) G cx (bq G) G [.bool au,AT am bg ak,F0,S0,F0,S0,S0,v4 (fR x y)] G fun _ jm dv _=>?_))
       have L:=dv.ext H o
       refine aR (bM (aK (sr (lo bU jm [.bool au,AT am bg ak,F0,S0,F0,S0,S0,v4 (fR x y)] G G G ?_))))
       have de:=(((ae.ext (h.t ej)).vN el).vN dv)
       refine so bU de [.bool au,AT am bg ak,F0,S0,F0,S0,S0,v4 (fR x y)] L M G G G G fun _ jb gj bm=>(aA (bD (bC [.agg #[.bool au,AT am bg ak,F0,S0,F0,S0,S0,v4 (fR x y)]] G ⟨⟨_,rfl,aW bU jb [.bool au,AT am bg ak,F0,S0,F0,S0,S0,v4 (fR x y)] G (bq G) rfl⟩,Fo⟩ ?_)))
       have hs:d8 k x y z u zs ys n1 n2=⟨j2 x y,0,0,0,[],fR x y⟩:=by unfold d8;rw [if_neg ag,if_neg aq,if_neg bv,if_neg cz,if_neg du,if_pos dw]
       exact⟨_,rfl,AnsR6.of hs ⟨_,_,_,_,_,_,_,_,_,_,_,_,_,_,rfl,(((kq.updT dc el).updT cx dv).updT de gj),(((((Zr.zero (w:=D) (base:=w.heap.size)).ext ej).updT dc el).updT cx dv).updT de gj),(((((Zr.zero (w:=D) (base:=w.heap.size)).ext ej).updT dc el).updT cx dv).updT de gj),mH,(aL jw G),(a6 (by decide:ln 0≤0) (by decide)),(a6 (by decide:ln 0≤0) (by decide))⟩,bm⟩
      ·refine aJ (aN G G G false (fT dw) (mv 1 G (aA (aV G (aH ?_)))))
       by_cases fq:k=7
       ·refine aJ (aN G G G true (fS fq) (mv 1 G (aA (bB G (aJ (pf g1 1 G (lo a8 (q.ext (e8.t h)) (O sa Aa na ca) G G G (pf g1 3 G (lo a8 (q.ext (e8.t h)) (O sb Ab nb cb) G G G (pf g1 5 G (lo a8 (q.ext (e8.t h)) (O sd Ad nd cd) G G G ?_)))))))))))
        have kf:ln (iZ x y z)≤1048576:=DZ Lz
        refine cl (vs:= [J sa Aa na ca,J sb Ab nb cb,J sd Ad nd cd]) f (K1 f.size (hx.ext f) (aL la G) (hy.ext f) (aL lb G) (hz.ext f) (aL ld G)) G (by kernel_rfl) fun _ _ kz eg E=>?_
        obtain⟨_,_,rfl,⟨bf,bi,ar,ao,rfl,kt⟩,rfl⟩:=kz
        refine mv 1 G (pu (v:= J bf bi ar ao) G (pu (v:= v4 (fP y z)) G (pf F 0 G ?_)))
        have cn:=(I.ext eg)
        refine so a8 cn [.bool bf,AT bi ar ao,F0,S0,F0,S0,S0,I0] E o G G G G fun _ cm fa H=>(pf F 7 G (eJ G G G (fun _=>by kernel_rfl) G cm (bq G) G [.bool bf,AT bi ar ao,F0,S0,F0,S0,S0,v4 (fP y z)] G fun _ jg df _=>?_))
        have L:=df.ext H o
        refine aR (bM (aK (sr (lo bU jg [.bool bf,AT bi ar ao,F0,S0,F0,S0,S0,v4 (fP y z)] G G G ?_))))
        have cv:=(((ae.ext (h.t eg)).vN fa).vN df)
        refine so bU cv [.bool bf,AT bi ar ao,F0,S0,F0,S0,S0,v4 (fP y z)] L M G G G G fun _ ji gb bm=>(aA (bD (bC [.agg #[.bool bf,AT bi ar ao,F0,S0,F0,S0,S0,v4 (fP y z)]] G ⟨⟨_,rfl,aW bU ji [.bool bf,AT bi ar ao,F0,S0,F0,S0,S0,v4 (fP y z)] G (bq G) rfl⟩,Fo⟩ ?_)))
        have hs:d8 k x y z u zs ys n1 n2=⟨iZ x y z,0,0,0,[],fP y z⟩:=by unfold d8;rw [if_neg ag,if_neg aq,if_neg bv,if_neg cz,if_neg du,if_neg dw,if_pos fq]
        exact⟨_,rfl,AnsR6.of hs ⟨_,_,_,_,_,_,_,_,_,_,_,_,_,_,rfl,(((kt.updT cn fa).updT cm df).updT cv gb),(((((Zr.zero (w:=D) (base:=w.heap.size)).ext eg).updT cn fa).updT cm df).updT cv gb),(((((Zr.zero (w:=D) (base:=w.heap.size)).ext eg).updT cn fa).updT cm df).updT cv gb),mH,(aL kf G),(a6 (by decide:ln 0≤0) (by decide)),(a6 (by decide:ln 0≤0) (by decide))⟩,bm⟩
       ·refine aJ (aN G G G false (fT fq) (mv 1 G (aA (aV G (aH ?_)))))
        by_cases gx:k=8
        ·refine aJ (aN G G G true (fS gx) (mv 1 G (aA (bB G (aJ (pf g1 1 G (lo a8 (q.ext (e8.t h)) (O sa Aa na ca) G G G (pf g1 3 G (lo a8 (q.ext (e8.t h)) (O sb Ab nb cb) G G G (pf g1 5 G (lo a8 (q.ext (e8.t h)) (O sd Ad nd cd) G G G (pf g1 7 G (lo a8 (q.ext (e8.t h)) (O se Ae ne ce) G G G ?_)))))))))))))
         have kw:ln (j4 x y z u)≤2097152:=E1 Ly Lu
         have kn:ln (j5 x y z u)≤2097152:=E2 Ly Lu
         refine cl (vs:= [J sa Aa na ca,J sb Ab nb cb,J sd Ad nd cd,J se Ae ne ce]) f (K8 f.size (hx.ext f) (aL la G) (hy.ext f) (aL lb G) (hz.ext f) (aL ld G) (hu.ext f) (aL le G)) G (by kernel_rfl) fun _ _ kx fz E=>?_
         obtain⟨_,_,_,rfl,⟨U,Y,V,X,rfl,ll⟩,⟨aw,an,bo,ba,rfl,ju⟩,rfl⟩:=kx
         refine mv 1 G (pu (v:= J U Y V X) G (pu (v:= J aw an bo ba) G (pu (v:= v4 (fV x y z u)) G (pf F 0 G ?_))))
         have cy:=(I.ext fz)
         refine so a8 cy [.bool U,AT Y V X,F0,S0,F0,S0,S0,I0] E o G G G G fun _ ck fj H=>(pf F 2 G (so a8 ck [.bool U,AT Y V X,.bool aw,AT an bo ba,F0,S0,S0,I0] H o G G G G fun _ ct ey L=>(pf F 7 G (eJ G G G (fun _=>by kernel_rfl) G ct (bq G) G [.bool U,AT Y V X,.bool aw,AT an bo ba,F0,S0,S0,v4 (fV x y z u)] G fun _ jh dm _=>?_))))
         have bm:=dm.ext L o
         refine aR (bM (aK (sr (lo bU jh [.bool U,AT Y V X,.bool aw,AT an bo ba,F0,S0,S0,v4 (fV x y z u)] G G G ?_))))
         have da:=((((ae.ext (h.t fz)).vN fj).vN ey).vN dm)
         refine so bU da [.bool U,AT Y V X,.bool aw,AT an bo ba,F0,S0,S0,v4 (fV x y z u)] bm M G G G G fun _ jj gy ft=>(aA (bD (bC [.agg #[.bool U,AT Y V X,.bool aw,AT an bo ba,F0,S0,S0,v4 (fV x y z u)]] G ⟨⟨_,rfl,aW bU jj [.bool U,AT Y V X,.bool aw,AT an bo ba,F0,S0,S0,v4 (fV x y z u)] G (bq G) rfl⟩,Fo⟩ ?_)))
         have hs:d8 k x y z u zs ys n1 n2=⟨j4 x y z u,j5 x y z u,0,0,[],fV x y z u⟩:=by unfold d8;rw [if_neg ag,if_neg aq,if_neg bv,if_neg cz,if_neg du,if_neg dw,if_neg fq,if_pos gx]
         exact⟨_,rfl,AnsR6.of hs ⟨_,_,_,_,_,_,_,_,_,_,_,_,_,_,rfl,((((ll.updT cy fj).updT ck ey).updT ct dm).updT da gy),((((ju.updT cy fj).updT ck ey).updT ct dm).updT da gy),((((((Zr.zero (w:=D) (base:=w.heap.size)).ext fz).updT cy fj).updT ck ey).updT ct dm).updT da gy),mH,(aL kw G),(aL kn G),(a6 (by decide:ln 0≤0) (by decide))⟩,ft⟩
        ·refine aJ (aN G G G false (fT gx) (mv 1 G (aA (aV G (aH ?_)))))
         by_cases ip:k=9
         ·refine aJ (aN G G G true (fS ip) (mv 1 G (aA (bB G (aJ (pf g1 9 G (aP G G (bA (fun _=>by kernel_rfl) (q.ext (e8.t h)) G) (pf g1 10 G (aP G G (bA (fun _=>by kernel_rfl) (q.ext (e8.t h)) G) ?_)))))))))
          have kj:ln (iJ zs ys n1 n2)≤1048577:=E3 hl2.len gk
          have ku:ln (iK zs ys n1 n2)≤1048577:=E4 gk
          refine cl (vs:= [AT A n1 c1,AT C n2 c2]) f (K7 f.size (hl.ext f) (hl2.ext f) hn1 hn2 hs hs2) G (by kernel_rfl) fun _ _ kv fy E=>?_
          obtain⟨_,_,_,rfl,⟨Z,aa,W,ab,rfl,jr⟩,⟨bp,bd,bc,bj,rfl,jv⟩,rfl⟩:=kv
          refine mv 1 G (pu (v:= J Z aa W ab) G (pu (v:= J bp bd bc bj) G (pu (v:= v4 (eC zs ys n1 n2)) G (pf F 0 G ?_))))
          have cj:=(I.ext fy)
          refine so a8 cj [.bool Z,AT aa W ab,F0,S0,F0,S0,S0,I0] E o G G G G fun _ co fd H=>(pf F 2 G (so a8 co [.bool Z,AT aa W ab,.bool bp,AT bd bc bj,F0,S0,S0,I0] H o G G G G fun _ cp ez L=>(pf F 7 G (eJ G G G (fun _=>by kernel_rfl) G cp (bq G) G [.bool Z,AT aa W ab,.bool bp,AT bd bc bj,F0,S0,S0,v4 (eC zs ys n1 n2)] G fun _ je dt _=>?_))))
          have bm:=dt.ext L o
          refine aR (bM (aK (sr (lo bU je [.bool Z,AT aa W ab,.bool bp,AT bd bc bj,F0,S0,S0,v4 (eC zs ys n1 n2)] G G G ?_))))
          have cu:=((((ae.ext (h.t fy)).vN fd).vN ez).vN dt)
          refine so bU cu [.bool Z,AT aa W ab,.bool bp,AT bd bc bj,F0,S0,S0,v4 (eC zs ys n1 n2)] bm M G G G G fun _ jl fx ft=>(aA (bD (bC [.agg #[.bool Z,AT aa W ab,.bool bp,AT bd bc bj,F0,S0,S0,v4 (eC zs ys n1 n2)]] G ⟨⟨_,rfl,aW bU jl [.bool Z,AT aa W ab,.bool bp,AT bd bc bj,F0,S0,S0,v4 (eC zs ys n1 n2)] G (bq G) rfl⟩,Fo⟩ ?_)))
          have hs:d8 k x y z u zs ys n1 n2=⟨iJ zs ys n1 n2,iK zs ys n1 n2,0,0,[],eC zs ys n1 n2⟩:=by unfold d8;rw [if_neg ag,if_neg aq,if_neg bv,if_neg cz,if_neg du,if_neg dw,if_neg fq,if_neg gx,if_pos ip]
          exact⟨_,rfl,AnsR6.of hs ⟨_,_,_,_,_,_,_,_,_,_,_,_,_,_,rfl,((((jr.updT cj fd).updT co ez).updT cp dt).updT cu fx),((((jv.updT cj fd).updT co ez).updT cp dt).updT cu fx),((((((Zr.zero (w:=D) (base:=w.heap.size)).ext fy).updT cj fd).updT co ez).updT cp dt).updT cu fx),mH,(aL kj G),(aL ku G),(a6 (by decide:ln 0≤0) (by decide))⟩,ft⟩
         ·refine aJ (aN G G G false (fT ip) (mv 1 G (aA (aV G (b8 (bM (aK (sr (lo bU I [F0,S0,F0,S0,F0,S0,S0,I0] G G G ?_)))))))))
          have dd:=(ae.ext h)
          refine so bU dd [F0,S0,F0,S0,F0,S0,S0,I0] f M G G G G fun _ jc ig E=>(aA (bD (bC [.agg #[F0,S0,F0,S0,F0,S0,S0,I0]] G ⟨⟨_,rfl,aW bU jc [F0,S0,F0,S0,F0,S0,S0,I0] G (bq G) rfl⟩,Fo⟩ ?_)))
          have hs:d8 k x y z u zs ys n1 n2=⟨0,0,0,0,[],0⟩:=by unfold d8;rw [if_neg ag,if_neg aq,if_neg bv,if_neg cz,if_neg du,if_neg dw,if_neg fq,if_neg gx,if_neg ip]
          exact⟨_,rfl,AnsR6.of hs ⟨_,_,_,_,_,_,_,_,_,_,_,_,_,_,rfl,((Zr.zero (w:=D) (base:=w.heap.size)).updT dd ig),((Zr.zero (w:=D) (base:=w.heap.size)).updT dd ig),((Zr.zero (w:=D) (base:=w.heap.size)).updT dd ig),mH,(a6 (by decide:ln 0≤0) (by decide)),(a6 (by decide:ln 0≤0) (by decide)),(a6 (by decide:ln 0≤0) (by decide))⟩,E⟩
theorem P2 (hb:b≤w.heap.size){k:Int}(h:Op6 w k x y z u zs ys n1 n2 v):aQ aM 13 #[v] w (Gv w (AnsR6 b (d8 k x y z u zs ys n1 n2))):=by
 obtain⟨sa,Aa,na,ca,sb,Ab,nb,cb,sd,Ad,nd,cd,se,Ae,ne,ce,A,c1,ms,C,_,_,rfl,U,F,E,I,H,V,W,L,M,p,q,f,D,o⟩:=h
 exact (P1 U F E I H V W L M p q f D o).mono (Gv.imp (AnsR6.imp hb))
theorem GM {A B:Int}(ha:A=(a:Int))(hb:B=(b:Int)):cH .eql A B=some (decide (a=b)):=by
 by_cases h:a=b
 ·rw [decide_eq_true h];exact mR ha hb (h:=h)
 ·rw [decide_eq_false h];exact nV ha hb (h:=h)
def fI (n:Nat)(σ:Nat→Bool)(i:Nat):Bool:=if i<n then σ i else decide (i%2=0)
def dD (n:Nat)(ω:Nat→List Nat)(i:Nat):List Nat:=if i<n then ω i else [i+1099511627776]
section
variable {n i:Nat}{σ:Nat→Bool}{ω:Nat→List Nat}
theorem nD (h:i<n:=by omega):fI n σ i=σ i:=if_pos h
theorem BX (h:¬i<n):fI n σ i=decide (i%2=0):=if_neg h
theorem j0 (h:i<n:=by omega):dD n ω i=ω i:=if_pos h
theorem oG (h:¬i<n):dD n ω i= [i+1099511627776]:=if_neg h
theorem rS (hK:∀i,i<n→(ω i).length≤K)(j:Nat)(h1:1≤K:=by decide):(dD n ω j).length≤K:=by
 by_cases h:j<n
 ·rw [j0 (h:=h)];exact hK j h
 ·rw [oG h];exact h1
end
theorem u8 (h:Bk w g t vs):∀j u,vs[j]?=some u→w.cell? ((⟨g,0,none⟩:aG).add j)=some u:=by
 intro j u hj
 rw [fL,eX]
 obtain⟨f,_⟩:=fD.1 hj
 rw [h.cell f,bE,hj];rfl
section
variable {us:List aI}{n g k:Nat}{s:Bool}{σ:Nat→Bool}{γ:Nat→Nat}{ω:Nat→List Nat}{xs:List Nat}
theorem Cz.app (h:Cz us n σ γ ω)(hl:us.length=n*2)(hs:σ n=s)(hw:ω n=xs):Cz (us++ [.bool s,AT (some ⟨g,0,none⟩) xs.length (xs.length+80)]) (n+1) σ (fun j=>if j=n then g else γ j) ω:=fun j hj=>by
 by_cases e:j=n
 ·subst e
  rw [List.getElem?_append_right (by omega),List.getElem?_append_right (by omega),hl,Nat.sub_self,show j*2+1-j*2=1 by omega,hs,hw]
  exact⟨rfl,by simp⟩
 ·simp only [if_neg e]
  rw [List.getElem?_append_left (by omega),List.getElem?_append_left (by omega)]
  exact h j (by omega)
theorem Cw.app (h:Cw us n γ ω)(hl:us.length=n)(hw:ω n=xs):Cw (us++ [AT (some ⟨g,0,none⟩) (xs.length+80) (xs.length+80)]) (n+1) (fun j=>if j=n then g else γ j) ω:=fun j hj=>by
 by_cases e:j=n
 ·subst e
  rw [List.getElem?_append_right (by omega),hl,Nat.sub_self,hw]
  simp
 ·simp only [if_neg e]
  rw [List.getElem?_append_left (by omega)]
  exact h j (by omega)
end
theorem NB (x:Nat): [x].length≤1099511627000:=by rw [List.length_singleton];decide
theorem QX {x:Nat}(h:Rd w (some ⟨g,0,none⟩) 1 1 [x]):aQ aM 34 #[AT (some ⟨g,0,none⟩) 1 1] w (Gv w (RM w.heap.size [x])):=FE (xs:= [x]) h (NB x)
def dI (A:Option aG)(c lo:Nat):Option aG:=if c=lo then A else A.map (·.add (lo*2))
theorem BM (A:Option aG)(c lo n:Nat):Value.slice (if c=lo then A else A.map (·.add (lo*2))) (lo+n-lo) (c-lo)= AT (dI A c lo) n (c-lo):=by rw [Nat.add_sub_cancel_left];rfl
def Ce (us:List aI)(n:Nat)(e:Nat→ZC):Prop:=∀j,j<n→us[j*2]?=some (.bool (e j).s)∧us[j*2+1]?=some (.slice (e j).A (e j).n (e j).c)
theorem Zw.sub {lo:Nat}{σ:Nat→Bool}{ω:Nat→List Nat}(h:Zw w A m c σ ω)(hl:lo+n≤m):Zw w (dI A c lo) n (c-lo) (fun j=>σ (lo+j)) (fun j=>ω (lo+j)):=by
 refine⟨by have:=h.1;omega,by have:=h.2.1;omega,fun i hi=>?_⟩
 obtain⟨a,B,d,rfl,o,q,p⟩:=h.2.2 (lo+i) (by omega)
 have f:¬c=lo:=by have:=h.1;omega
 refine⟨a.add (lo*2),B,d,by unfold dI;rw [if_neg f];rfl,?_,?_,p⟩
 ·rw [kY,show lo*2+i*2=(lo+i)*2 by omega];exact o
 ·rw [kY,show lo*2+(i*2+1)=(lo+i)*2+1 by omega];exact q
def TJ (lo hi b m n:Nat)(γ:Nat→Nat)(ω:Nat→List Nat)(v0:a7)(e:Ending)(w':a7):Prop:=e= .returned (.tuple #[])∧UpT lo hi v0 w'∧Fam w' b m γ (tU n ω)
def TS (b n:Nat)(σ:Nat→Bool)(ω:Nat→List Nat)(v:aI)(w:a7):Prop:=∃AX cX AW cW γ us ws,v= .tuple #[AT AX (n+80) cX,AT AW (n+80) cW]∧Own w b 24 2 AX (n+80) cX us∧Cz us (n+80) (fI n σ) γ (dD n ω)∧Own w b 22 1 AW (n+80) cW ws∧Cw ws (n+80) γ (dD n ω)∧Fam w b (n+80) γ (dD n ω)
theorem P6 {σ:Nat→Bool}{ω:Nat→List Nat}(hl:Zw w L n cap σ ω)(hn:n≤3145728)(hK:∀i,i<n→(ω i).length≤1048576):aQ aM 11 #[AT L n cap] w (Gv w (TS w.heap.size n σ ω)):=by
 refine bP Tryz.func11 G (n:=56) G (bq G) (args:= [AT L n cap]) (bH [(0,AT L n cap)] ⟨rfl,Fo⟩ (sr (mv 2 G (aA (sr (mv 1 G (pu (v:= v4 n) G (aT G G G ((n+80:Nat):Int) (bK (a:=n) (b:=80) G G) (wQ (k:=n+80) none 0 w.heap.size G G G fun g1 v2 el dg e5=>?_)))))))))
 obtain⟨_,da⟩:=dg.own
 have fj:w.heap.size≤g1:=by rw [←el];exact (Ext.refl w).size
 replace da:=da.mono fj
 clear el dg
 have bu:=(Ext.refl w).trans e5
 refine mv 1 G (aA (sr (mv 1 G (aA (aH (sr (mv 1 G (aA (bG ?_)))))))))
 refine cQ (T:=a7×Nat×Option aG×Nat×(Nat→Nat)×Option aG×Nat×List aI×List aI)
  (fun⟨wr,i,AX,cX,γ,AW,cW,us,ws⟩=> [(0,AT L n cap),(4,AT AX i cX),(5,AT AW i cW),(6,v4 i)])
  (fun⟨wr,i,AX,cX,γ,AW,cW,us,ws⟩=>wr)
  (fun⟨wr,i,AX,cX,γ,AW,cW,us,ws⟩=>(Ext w wr)∧(i≤n+80)∧(Own wr w.heap.size 24 2 AX i cX us)∧(Own wr w.heap.size 22 1 AW i cW ws)∧(Cz us i (fI n σ) γ (dD n ω))∧(Cw ws i γ (dD n ω))∧(Fam wr w.heap.size i γ (dD n ω)))
  (fun⟨wr,i,AX,cX,γ,AW,cW,us,ws⟩=>n+80-i)
  (⟨v2,0,(some ⟨g1,0,none⟩),(n+80),(fun _=>0),none,0,_,[]⟩:a7×Nat×Option aG×Nat×(Nat→Nat)×Option aG×Nat×List aI×List aI) ⟨bu,(bJ _),da,(Own.nil _ _ _ _),(fun _ h=>absurd h (Nat.not_lt_zero _)),(fun _ h=>absurd h (Nat.not_lt_zero _)),Fam.zero⟩ G ⟨rfl,rfl,rfl,rfl,Fo⟩ ?_
 rintro⟨wr,i,AX,cX,γ,AW,cW,us,ws⟩ ⟨bu,hi,hX,hW,hC,hD,hF⟩
 refine cP [(0,AT L n cap),(4,AT AX i cX),(5,AT AW i cW),(6,v4 i)] wr G ⟨rfl,rfl,rfl,rfl,Fo⟩ (aH (aH ?_))
 by_cases gf:i<n+80
 ·refine aJ (mv 2 G (pu (v:= v4 n) G (aT G G G ((n+80:Nat):Int) (bK (a:=n) (b:=80) G G) (aN G G G true (cG (a:=i) (b:=n+80) G G) (aA (bB G (b8 (aK (aH (bG (sr (mv 1 G (aT G G G ((i%2:Nat):Int) (jL (a:=i) (b:=2) G G) ?_)))))))))))))
  refine aN G G G (decide (i%2=0)) (GM (a:=i%2) (b:=0) G G) (mv 1 G (kS G G (v:= AI (IntKind.u64.wrap ((i:Nat):Int))) (v':= AI i) (nS (by first | omega | exact hle64)) (aT G G G ((i+1099511627776:Nat):Int) (gS (a:=i) (b:=1099511627776) G G) (fA G G (k:=1) (e:=36) [AI ((i+1099511627776:Nat):Int)] (fun _=>by kernel_rfl) fun g9 fx nb=>?_))))
  have bo:=nb.bk
  have X:=nb.ext
  clear nb
  have ew:=bu.trans X
  obtain⟨E,au⟩:∃q,i+1099511627776=q:=⟨_,rfl⟩
  rw [au] at bo
  refine pu (v:= .agg #[.bool (decide (i%2=0)),AT (some ⟨g9,0,none⟩) 1 1]) G (dW G (z:= .agg #[F0,S0]) (vs:= [F0,S0]) (fun _=>by kernel_rfl) G fun F _ nb=>?_)
  have ah:∀p,AX=some p→p.block≠F:=fun p hp=>by have:=((hX.ext X)).block p hp;have:=nb.at_;omega
  have gw_g15:fx.heap.size≤F:=by rw [←nb.at_];exact aS _
  have M:=nb.bk
  have bz:w.heap.size≤F:=by rw [←nb.at_];exact ew.size
  have U:=nb.ext
  clear nb
  have fo:=ew.trans U
  refine so a8 M [.bool (decide (i%2=0)),AT (some ⟨g9,0,none⟩) 1 1] fo bz G G G G fun _ V Y bt=>(aA (aH (aH ?_)))
  by_cases ae:i<n
  ·refine aJ (mv 2 G (pu (v:= v4 n) G (aN G G G true (cG (a:=i) (b:=n) G G) (aA (bB G (aJ (mv 2 G ?_)))))))
   obtain⟨fq,ep,cp,de,dz,_,ch⟩:=zY hl (i:=i) (by omega)
   refine bI G G G d9 a8.size i G fq ep (aP G G (dz _ bt _ _ a8) (so a8 V [.bool (σ i),AT cp ((ω i).length) de] bt bz G G G G fun _ ba br bd=>(aA (sr (pf F 1 G (aP G G (bA cZ ba G) ?_))))))
   have cz:=((ch.ext bd)).wf
   have dc:=fun j hj=>((((hF.ext (X.t U)).updT M (by decide) Y).updT V (by decide) br)).lt (j:=j) hj
   have bj:=bd.size
   refine cl (vs:= [AT cp ((ω i).length) de]) bd (FE (ch.ext bd) (a6 (hK _ ae) (by decide))) G (by kernel_rfl) fun _ _ fv aw bv=>?_
   obtain⟨Z,rfl,cj,dx⟩:=fv
   refine mv 1 G (aA (sr (mv 2 G (fA G G (k:=1) (e:=22) [AT (some ⟨Z,0,none⟩) ((ω i).length+80) ((ω i).length+80)] (fun _=>by kernel_rfl) fun _ _ cn=>?_))))
   have dh:=cn.bk
   have ai:=cn.ext
   have bp:=bv.trans ai
   have I:=((((hW.ext (X.t U)).updT M (by decide) Y).updT V (by decide) br).ext (aw.t ai))
   refine mC G G G jT qB G I bp.size [AT (some ⟨Z,0,none⟩) ((ω i).length+80) ((ω i).length+80)] G (u8 dh) G fun fi ft _ df W _=>?_
   have ao:=W.ext bp (fun p hp=>by have:=(I.block p hp).1;omega)
   refine mv 1 G (aA ?_)
   refine cU bR 10 [] [Is (AT AX i cX),Is (no F 0),Is (.bool (σ i)),Is (AT (some ⟨Z,0,none⟩) ((ω i).length+80) ((ω i).length+80)),Is (no F 1),Is (AT cp ((ω i).length) de),Is (v4 (((ω i).length:Nat):Int)),Is (AT (some ⟨Z,0,none⟩) ((ω i).length) ((ω i).length+80)),Is (.agg #[.bool (σ i),AT (some ⟨Z,0,none⟩) ((ω i).length) ((ω i).length+80)]),fun v' w'=>∃g,v'= AT (some ⟨g,0,none⟩) 1 1∧Bk w' g 24 [.bool (σ i),AT (some ⟨Z,0,none⟩) ((ω i).length) ((ω i).length+80)]] [[],[],[1],[],[],[4],[5],[3,6],[2,7],[8]] [[],[],[1],[],[],[4],[4,5],[3,4,5,6],[1,2,3,4,5,6,7],[1,2,3,4,5,6,7,8],[0,1,2,3,4,5,6,7,8,9],[0,1,2,3,4,5,6,7,8,9,10]] rfl
    (aF G G (aC G G ?_) (aF G G (aC G G ?_) (aF G G (aC G G ?_) (aF G G (aC G G ?_) (aF G G (aC G G ?_) (aF G G (aC G G ?_) (aF G G (aC G G ?_) (aF G G (aC G G ?_) (aF G G (aC G G ?_) (aF G G (aC G G ?_) cE)))))))))) ?_
   ·exact fun _ _=>aB (mv 1 G (aE G aD G))
   ·exact fun _ _=>aB (pf F 0 G (aE G aD G))
   ·exact fun _ fw=>dk G G (aB (aP G G (bA dZ (((ba.ext (aw.t ai)).updOT I (by decide) W).ext fw) G) (aE G aD G)))
   ·exact fun _ _=>aB (mv 1 G (aE G aD G))
   ·exact fun _ _=>aB (pf F 1 G (aE G aD G))
   ·exact fun _ fm=>dk G G (aB (aP G G (bA cZ (((ba.ext (aw.t ai)).updOT I (by decide) W).ext fm) G) (aE G aD G)))
   ·exact fun _ _=>dk G G (aB (pu (v:= v4 (((ω i).length:Nat):Int)) G (aE G aD G)))
   ·exact fun _ _=>dk G G (dk G G (aB (pN G G bT bL (lo:=0) (hi:=(ω i).length) G G (by omega) (by omega) (v:= AT (some ⟨Z,0,none⟩) ((ω i).length) ((ω i).length+80)) (BO _ _ _) (by decide) (aE G aD G))))
   ·exact fun _ _=>dk G G (dk G G (aB (pu (v:= .agg #[.bool (σ i),AT (some ⟨Z,0,none⟩) ((ω i).length) ((ω i).length+80)]) G (aE G aD G))))
   ·intro ez bm
    have ar:=ao.trans bm
    refine dk G G (aB (fA G G (k:=1) (e:=24) [.bool (σ i),AT (some ⟨Z,0,none⟩) ((ω i).length) ((ω i).length+80)] (fun _=>by kernel_rfl) fun bc _ nb=>?_))
    have fp:∀p,AX=some p→p.block≠bc:=fun p hp=>by have:=(((((((hX.ext (X.t U)).upd Y ah).upd br ah).ext (aw.t ai)).updOT I (by decide) W).ext bm)).block p hp;have:=nb.at_;omega
    have gw_g108:ez.heap.size≤bc:=by rw [←nb.at_];exact aS _
    have dd:=nb.bk
    have fd:w.heap.size≤bc:=by rw [←nb.at_];exact ar.size
    have fz:F<bc:=by rw [←nb.at_];exact (((ba.ext (aw.t ai)).updOT I (by decide) W).ext bm).lt
    have cm:=nb.ext
    clear nb
    have cg:=ar.trans cm
    exact aE G cm ⟨_,rfl,dd⟩
   ·intro _ aq
    have ar:=ao.trans aq
    refine dk G G (dk G G (dk G G (dk G G (dk G G (dk G G (dk G G (dk G G (dk G G (aO G G fun _ _ dy _ ef=>?_)))))))))
    obtain⟨_,rfl,an⟩:=dy
    have an:=an.ext ef
    refine aB ?_
    have ag:=((((((hX.ext (X.t U)).upd Y ah).upd br ah).ext (aw.t ai)).updOT I (by decide) W).ext aq)
    refine mC G G G d9 mJ G ag ar.size [.bool (σ i),AT (some ⟨Z,0,none⟩) ((ω i).length) ((ω i).length+80)] G (u8 an) G fun dr dl ei cu am _=>?_
    have cg:=am.ext ar (fun p hp=>by have:=(ag.block p hp).1;omega)
    refine mv 1 G (aR (cF (bM (aK (aJ (mv 1 G (aT G G G ((i+1:Nat):Int) (bK (a:=i) (b:=1) G G) (mv 1 G (aR (bX (⟨ei,i+1,dr,dl,_,fi,ft,_,_⟩:a7×Nat×Option aG×Nat×(Nat→Nat)×Option aG×Nat×List aI×List aI) ⟨cg,(by omega),cu,((df.ext aq).updOT ag (by decide) am),(hC.app (g:=Z) (jE hX) (nD (h:=ae)) (j0 (h:=ae))),(hD.app (g:=Z) (by have:=hW.rv.len;omega) (j0 (h:=ae))),(Fam.snoc (((((((hF.ext (X.t U)).updT M (by decide) Y).updT V (by decide) br).ext (aw.t ai)).updOT I (by decide) W).ext aq).updOT ag (by decide) am) (by rw [j0 (h:=ae)];exact cz) (by rw [j0 (h:=ae)];exact ((((dx.ext ai).updOT I (by decide) W).ext aq).updOT ag (by decide) am)) (a6 bj cj) (fun j hj=>d4 (dc j hj) cj))⟩ (show n+80-(i+1)<n+80-i by omega) G ⟨rfl,rfl,rfl,rfl,Fo⟩))))))))))
  ·refine aJ (mv 2 G (pu (v:= v4 n) G (aN G G G false (cL (a:=i) (b:=n) G G) (aA (aV G (b8 (aK (sr (pf F 1 G (aP G G (bA cZ V G) ?_))))))))))
   have cz:=((tZ (x:=E) ((bo.ext U).updTT M (by decide) Y))).wf
   have dc:=fun j hj=>(((hF.ext (X.t U)).updT M (by decide) Y)).lt (j:=j) hj
   have bj:=bt.size
   refine cl (vs:= [AT (some ⟨g9,0,none⟩) 1 1]) bt (QX (tZ (x:=E) ((bo.ext U).updTT M (by decide) Y))) G (by kernel_rfl) fun _ _ dw aa bd=>?_
   obtain⟨o,rfl,bi,ct⟩:=dw
   refine mv 1 G (aA (sr (mv 2 G (fA G G (k:=1) (e:=22) [AT (some ⟨o,0,none⟩) ([E].length+80) ([E].length+80)] (fun _=>by kernel_rfl) fun _ _ bh=>?_))))
   have cx:=bh.bk
   have H:=bh.ext
   have bv:=bd.trans H
   have f:=(((hW.ext (X.t U)).updT M (by decide) Y).ext (aa.t H))
   refine mC G G G jT qB G f bv.size [AT (some ⟨o,0,none⟩) ([E].length+80) ([E].length+80)] G (u8 cx) G fun ey fa _ cy D _=>?_
   have bp:=D.ext bv (fun p hp=>by have:=(f.block p hp).1;omega)
   refine mv 1 G (aA ?_)
   refine cU bR 10 [] [Is (AT AX i cX),Is (no F 0),Is (.bool (decide (i%2=0))),Is (AT (some ⟨o,0,none⟩) ([E].length+80) ([E].length+80)),Is (no F 1),Is (AT (some ⟨g9,0,none⟩) 1 1),Is (v4 1),Is (AT (some ⟨o,0,none⟩) 1 ([E].length+80)),Is (.agg #[.bool (decide (i%2=0)),AT (some ⟨o,0,none⟩) 1 ([E].length+80)]),fun v' w'=>∃g,v'= AT (some ⟨g,0,none⟩) 1 1∧Bk w' g 24 [.bool (decide (i%2=0)),AT (some ⟨o,0,none⟩) 1 ([E].length+80)]] [[],[],[1],[],[],[4],[5],[3,6],[2,7],[8]] [[],[],[1],[],[],[4],[4,5],[3,4,5,6],[1,2,3,4,5,6,7],[1,2,3,4,5,6,7,8],[0,1,2,3,4,5,6,7,8,9],[0,1,2,3,4,5,6,7,8,9,10]] rfl
    (aF G G (aC G G ?_) (aF G G (aC G G ?_) (aF G G (aC G G ?_) (aF G G (aC G G ?_) (aF G G (aC G G ?_) (aF G G (aC G G ?_) (aF G G (aC G G ?_) (aF G G (aC G G ?_) (aF G G (aC G G ?_) (aF G G (aC G G ?_) cE)))))))))) ?_
   ·exact fun _ _=>aB (mv 1 G (aE G aD G))
   ·exact fun _ _=>aB (pf F 0 G (aE G aD G))
   ·exact fun _ ej=>dk G G (aB (aP G G (bA dZ (((V.ext (aa.t H)).updOT f (by decide) D).ext ej) G) (aE G aD G)))
   ·exact fun _ _=>aB (mv 1 G (aE G aD G))
   ·exact fun _ _=>aB (pf F 1 G (aE G aD G))
   ·exact fun _ ee=>dk G G (aB (aP G G (bA cZ (((V.ext (aa.t H)).updOT f (by decide) D).ext ee) G) (aE G aD G)))
   ·exact fun _ _=>dk G G (aB (pu (v:= v4 1) G (aE G aD G)))
   ·exact fun _ _=>dk G G (dk G G (aB (pN G G bT bL (lo:=0) (hi:=1) G G (by omega) (by omega) (v:= AT (some ⟨o,0,none⟩) 1 ([E].length+80)) (BO _ _ _) (by decide) (aE G aD G))))
   ·exact fun _ _=>dk G G (dk G G (aB (pu (v:= .agg #[.bool (decide (i%2=0)),AT (some ⟨o,0,none⟩) 1 ([E].length+80)]) G (aE G aD G))))
   ·intro du bg
    have ao:=bp.trans bg
    refine dk G G (aB (fA G G (k:=1) (e:=24) [.bool (decide (i%2=0)),AT (some ⟨o,0,none⟩) 1 ([E].length+80)] (fun _=>by kernel_rfl) fun az _ nb=>?_))
    have fe:∀p,AX=some p→p.block≠az:=fun p hp=>by have:=((((((hX.ext (X.t U)).upd Y ah).ext (aa.t H)).updOT f (by decide) D).ext bg)).block p hp;have:=nb.at_;omega
    have gw_g250:du.heap.size≤az:=by rw [←nb.at_];exact aS _
    have co:=nb.bk
    have fk:w.heap.size≤az:=by rw [←nb.at_];exact ao.size
    have ga:F<az:=by rw [←nb.at_];exact (((V.ext (aa.t H)).updOT f (by decide) D).ext bg).lt
    have ck:=nb.ext
    clear nb
    have ar:=ao.trans ck
    exact aE G ck ⟨_,rfl,co⟩
   ·intro _ av
    have ao:=bp.trans av
    refine dk G G (dk G G (dk G G (dk G G (dk G G (dk G G (dk G G (dk G G (dk G G (aO G G fun _ _ dn _ eg=>?_)))))))))
    obtain⟨_,rfl,aj⟩:=dn
    have aj:=aj.ext eg
    refine aB ?_
    have ab:=(((((hX.ext (X.t U)).upd Y ah).ext (aa.t H)).updOT f (by decide) D).ext av)
    refine mC G G G d9 mJ G ab ao.size [.bool (decide (i%2=0)),AT (some ⟨o,0,none⟩) 1 ([E].length+80)] G (u8 aj) G fun eh fb dt cv ak _=>?_
    have ar:=ak.ext ao (fun p hp=>by have:=(ab.block p hp).1;omega)
    refine mv 1 G (aR (cF (bM (aK (aJ (mv 1 G (aT G G G ((i+1:Nat):Int) (bK (a:=i) (b:=1) G G) (mv 1 G (aR (bX (⟨dt,i+1,eh,fb,_,ey,fa,_,_⟩:a7×Nat×Option aG×Nat×(Nat→Nat)×Option aG×Nat×List aI×List aI) ⟨ar,(by omega),cv,((cy.ext av).updOT ab (by decide) ak),(hC.app (g:=o) (jE hX) (BX ae) ((oG ae).trans (congrArg (fun x=> [x]) au))),(hD.app (g:=o) (by have:=hW.rv.len;omega) ((oG ae).trans (congrArg (fun x=> [x]) au))),(Fam.snoc ((((((hF.ext (X.t U)).updT M (by decide) Y).ext (aa.t H)).updOT f (by decide) D).ext av).updOT ab (by decide) ak) (by rw [(oG ae).trans (congrArg (fun x=> [x]) au)];exact cz) (by rw [(oG ae).trans (congrArg (fun x=> [x]) au)];exact ((((ct.ext H).updOT f (by decide) D).ext av).updOT ab (by decide) ak)) (a6 bj bi) (fun j hj=>d4 (dc j hj) bi))⟩ (show n+80-(i+1)<n+80-i by omega) G ⟨rfl,rfl,rfl,rfl,Fo⟩))))))))))
 ·obtain rfl:i=n+80:=by omega
  refine aJ (mv 2 G (pu (v:= v4 n) G (aT G G G ((n+80:Nat):Int) (bK (a:=n) (b:=80) G G) (aN G G G false (cL (a:=n+80) (b:=n+80) G G) (aA (aV G (cR (cK (cN (cO (aK (sr (mv 1 G ?_)))))))))))))
  refine mv 3 G (aA (bD (bC [AT AX (n+80) cX,AT AW (n+80) cW] G ⟨rfl,rfl,Fo⟩ ?_)))
  exact⟨_,rfl,⟨_,_,_,_,_,_,_,rfl,hX,hC,hW,hD,hF⟩,bu⟩
theorem D1 (x:Nat): [x].length≤1048576:=by rw [List.length_singleton];decide
theorem EZ {d:Nat}(hx:Rd w A n c xs)(hy:Rd w B m d xs)(hn:n≤1099511627776):aQ aM 32 #[AT A n c,AT B m d] w (Gv w (Is (By))):=by
 have e:n=m:=hx.len.symm.trans hy.len
 have h:=CM hx hn hy (by omega)
 rw [decide_eq_true rfl] at h
 exact h.mono EV
theorem FD (hx:Rd w Aa xs.length ca xs)(hal:xs.length≤1048576)(hy:Rd w Ab xs.length cb xs):aQ aM 9 #[J sa Aa xs.length ca,J sa Ab xs.length cb] w (Gv w (Is (By))):=by
 refine bP Tryz.func9 G (n:=19) G (bq G) (args:= [J sa Aa xs.length ca,J sa Ab xs.length cb]) (bH [(0,J sa Aa xs.length ca),(1,J sa Ab xs.length cb)] ⟨rfl,rfl,Fo⟩ (sr (mB G G (vs:= (O sa Aa xs.length ca)) G fun p X nb=>?_)))
 have gw_g1:w.heap.size≤p:=by rw [←nb.at_];exact aS _
 have h:=nb.bk
 have Y:w.heap.size≤p:=by rw [←nb.at_];exact (Ext.refl w).size
 have V:=nb.ext
 clear nb
 have E:=(Ext.refl w).trans V
 refine mB G G (vs:= (O sa Ab xs.length cb)) G fun D _ nb=>?_
 have gw_g6:X.heap.size≤D:=by rw [←nb.at_];exact aS _
 have o:=nb.bk
 have U:w.heap.size≤D:=by rw [←nb.at_];exact E.size
 have W:p<D:=by rw [←nb.at_];exact h.lt
 have H:=nb.ext
 clear nb
 have f:=E.trans H
 refine mv 1 G (aA (aH ?_))
 cases sa
 ·refine aJ (pf p 1 G (aP G G (bA cZ (h.ext H) G) (pf D 1 G (aP G G (bA cZ o G) (cl (vs:= [AT Aa xs.length ca,AT Ab xs.length cb]) f (EZ (hx.ext f) (hy.ext f) (by omega)) G (by kernel_rfl) fun _ _ M I q=>?_)))))
  obtain rfl:=M
  refine mv 1 G (aA (sr (mv 2 G (pf p 0 G (aP G G (bA dZ (h.ext (H.t I)) G) (pf D 0 G (aP G G (bA dZ (o.ext I) G) (pu (v:= By) G (pu (v:= By) G (mv 1 G (aA (bD (bC [By] G ⟨rfl,Fo⟩ ?_)))))))))))))
  exact⟨_,rfl,rfl,q⟩
 ·refine aJ (pf p 1 G (aP G G (bA cZ (h.ext H) G) (pf D 1 G (aP G G (bA cZ o G) (cl (vs:= [AT Aa xs.length ca,AT Ab xs.length cb]) f (EZ (hx.ext f) (hy.ext f) (by omega)) G (by kernel_rfl) fun _ _ L F q=>?_)))))
  obtain rfl:=L
  refine mv 1 G (aA (sr (mv 2 G (pf p 0 G (aP G G (bA dZ (h.ext (H.t F)) G) (pf D 0 G (aP G G (bA dZ (o.ext F) G) (pu (v:= By) G (pu (v:= By) G (mv 1 G (aA (bD (bC [By] G ⟨rfl,Fo⟩ ?_)))))))))))))
  exact⟨_,rfl,rfl,q⟩
theorem Q5 {σ:Nat→Bool}{ω:Nat→List Nat}(hl:Zw w L n cap σ ω)(hn:n≤3145728)(hK:∀i,i<n→(ω i).length≤1048576){cW:Nat}{γ:Nat→Nat}(hX:Own w b 24 2 AX (n+80) cX us)(hC:Cz us (n+80) (fI n σ) γ (dD n ω))(hW:Own w b 22 1 AW (n+80) cW ws)(hD:Cw ws (n+80) γ (dD n ω))(hF:Fam w b (n+80) γ (dD n ω)):aQ aM 15 #[AT AX (n+80) cX,AT AW (n+80) cW,AT L n cap] w (Gv w (Is (By))):=by
 refine bP Tryz.func15 G (n:=48) G (bq G) (args:= [AT AX (n+80) cX,AT AW (n+80) cW,AT L n cap]) (bH [(0,AT AX (n+80) cX),(1,AT AW (n+80) cW),(2,AT L n cap)] ⟨rfl,rfl,rfl,Fo⟩ (sr (mv 1 G (aA (aH (sr (mv 1 G (aA (bG ?_)))))))))
 refine cQ (T:=a7×Nat)
  (fun⟨wr,i⟩=> [(0,AT AX (n+80) cX),(1,AT AW (n+80) cW),(2,AT L n cap),(7,v4 i)])
  (fun⟨wr,i⟩=>wr)
  (fun⟨wr,i⟩=>(Ext w wr)∧(i≤n+80))
  (fun⟨wr,i⟩=>n+80-i)
  (⟨w,0⟩:a7×Nat) ⟨(Ext.refl w),(bJ _)⟩ G ⟨rfl,rfl,rfl,rfl,Fo⟩ ?_
 rintro⟨wr,i⟩ ⟨bf,hi⟩
 refine cP [(0,AT AX (n+80) cX),(1,AT AW (n+80) cW),(2,AT L n cap),(7,v4 i)] wr G ⟨rfl,rfl,rfl,rfl,Fo⟩ (aH (aH ?_))
 by_cases D:i<n+80
 ·refine aJ (mv 2 G (pu (v:= v4 (((n+80):Nat):Int)) G (aN G G G true (cG (a:=i) (b:=n+80) G G) (aA (bB G (b8 (aK (aH (bG (sr (mv 1 G (aT G G G ((i%2:Nat):Int) (jL (a:=i) (b:=2) G G) (aN G G G (decide (i%2=0)) (GM (a:=i%2) (b:=0) G G) ?_)))))))))))))
  refine mv 1 G (kS G G (v:= AI (IntKind.u64.wrap ((i:Nat):Int))) (v':= AI i) (nS (by first | omega | exact hle64)) (aT G G G ((i+1099511627776:Nat):Int) (gS (a:=i) (b:=1099511627776) G G) (fA G G (k:=1) (e:=36) [AI ((i+1099511627776:Nat):Int)] (fun _=>by kernel_rfl) fun g1 v2 nb=>?_)))
  have az:=nb.bk
  have e4:=nb.ext
  clear nb
  have bz:=bf.trans e4
  obtain⟨E,aw⟩:∃q,i+1099511627776=q:=⟨_,rfl⟩
  rw [aw] at az
  refine pu (v:= .agg #[.bool (decide (i%2=0)),AT (some ⟨g1,0,none⟩) 1 1]) G (dW G (z:= .agg #[F0,S0]) (vs:= [F0,S0]) (fun _=>by kernel_rfl) G fun g7 _ nb=>?_)
  have dt:∀p,AX=some p→p.block≠g7:=fun p hp=>by have:=((hX.ext (bf.trans e4))).block p hp;have:=nb.at_;omega
  have gw_g7:v2.heap.size≤g7:=by rw [←nb.at_];exact aS _
  have V:=nb.bk
  have ah:w.heap.size≤g7:=by rw [←nb.at_];exact bz.size
  have bc:=nb.ext
  clear nb
  have dc:=bz.trans bc
  refine so a8 V [.bool (decide (i%2=0)),AT (some ⟨g1,0,none⟩) 1 1] dc ah G G G G fun _ U cm H=>(aA (aH (aH ?_)))
  by_cases F:i<n
  ·refine aJ (mv 2 G (pu (v:= v4 n) G (aN G G G true (cG (a:=i) (b:=n) G G) (aA (bB G (aJ (mv 2 G ?_)))))))
   obtain⟨da,cz,M,I,bp,_,an⟩:=zY hl (i:=i) (by omega)
   refine bI G G G d9 a8.size i G da cz (aP G G (bp _ H _ _ a8) (so a8 U [.bool (σ i),AT M ((ω i).length) I] H ah G G G G fun _ ag _ f=>(aA (aH ?_))))
   have ao:dD n ω i=(ω i):=j0 (h:=F)
   obtain⟨cy,cv,bh⟩:=oF hX (i:=i) (by omega) (show us[i*2]?=some (.bool (σ i)) by rw [(hC i D).1,nD (h:=F)]) (show us[i*2+1]?=some (.slice (some ⟨γ i,0,none⟩) (ω i).length ((ω i).length+80)) by rw [(hC i D).2,ao])
   have aa:=rQ (hF.1 i D).2.2 G (hF.1 i D).2.1 (a6 (rS hK i) (by decide))
   rw [ao] at aa
   have ai:dD n ω i=(ω i):=j0 (h:=F)
   obtain⟨cp,cg,ch⟩:=xK hW (i:=i) (show ws[i]?=some (AT (some ⟨γ i,0,none⟩) ((ω i).length+80) ((ω i).length+80)) by rw [hD i D,ai])
   have am:=CE (hF.1 i D).2.2 G (hF.1 i D).2.1 (a6 (rS hK i) (by decide))
   rw [ai] at am
   refine cU bR 17 [] [Is (AT AX (n+80) cX),Is (v4 i),Is (.pointer (some cy)),Is (.agg #[.bool (σ i),AT (some ⟨γ i,0,none⟩) ((ω i).length) ((ω i).length+80)]),Is (.agg #[.bool (σ i),AT M ((ω i).length) I]),Is (By),Is (BY),Is (BY),Is (AT AW (n+80) cW),Is (v4 i),Is (.pointer (some cp)),Is (AT (some ⟨γ i,0,none⟩) ((ω i).length+80) ((ω i).length+80)),Is (no g7 1),Is (AT M ((ω i).length) I),Is (By),Is (BY),Is (BY)] [[],[],[0,1],[2],[],[3,4],[5],[6],[7],[7],[7,8,9],[7,10],[7],[7,12],[7,11,13],[7,14],[7,15]] [[],[],[0,1],[0,1,2],[],[0,1,2,3,4],[0,1,2,3,4,5],[0,1,2,3,4,5,6],[0,1,2,3,4,5,6,7],[0,1,2,3,4,5,6,7],[0,1,2,3,4,5,6,7,8,9],[0,1,2,3,4,5,6,7,8,9,10],[0,1,2,3,4,5,6,7],[0,1,2,3,4,5,6,7,12],[0,1,2,3,4,5,6,7,8,9,10,11,12,13],[0,1,2,3,4,5,6,7,8,9,10,11,12,13,14],[0,1,2,3,4,5,6,7,8,9,10,11,12,13,14,15]] rfl
    (aF G G (aC G G ?_) (aF G G (aC G G ?_) (aF G G (aC G G ?_) (aF G G (aC G G ?_) (aF G G (aC G G ?_) (aF G G (aC G G ?_) (aF G G (aC G G ?_) (aF G G (aC G G ?_) (aF G G (aC G G ?_) (aF G G (aC G G ?_) (aF G G (aC G G ?_) (aF G G (aC G G ?_) (aF G G (aC G G ?_) (aF G G (aC G G ?_) (aF G G (aC G G ?_) (aF G G (aC G G ?_) (aF G G (aC G G ?_) cE))))))))))))))))) ?_
   ·exact fun _ _=>aB (mv 1 G (aE G aD G))
   ·exact fun _ _=>aB (mv 1 G (aE G aD G))
   ·exact fun _ _=>dk G G (dk G G (aB (bI G G G d9 a8.size i G cy cv (aE G aD G))))
   ·intro _ df
    have o:=f.trans df
    refine dk G G (aB (aP G G (bh _ o _ _ a8) ?_))
    exact aE G aD rfl
   ·exact fun _ dg=>aB (lo a8 (ag.ext dg) [.bool (σ i),AT M ((ω i).length) I] G G G (aE G aD G))
   ·intro _ de
    have o:=f.trans de
    refine dk G G (dk G G (aB (cl (vs:= [.agg #[.bool (σ i),AT (some ⟨γ i,0,none⟩) ((ω i).length) ((ω i).length+80)],.agg #[.bool (σ i),AT M ((ω i).length) I]]) o (FD (xs:=(ω i)) (aa.ext o) (hK i F) (an.ext o)) G (by kernel_rfl) fun _ _ dl dh dd=>?_)))
    obtain rfl:=dl
    exact aE G dh rfl
   ·exact fun _ _=>dk G G (aB (pu (v:= BY) G (aE G aD G)))
   ·exact fun _ _=>dk G G (aB (mv 1 G (aE G aD G)))
   ·exact fun _ _=>dk G G (aB (mv 1 G (aE G aD G)))
   ·exact fun _ _=>dk G G (aB (mv 1 G (aE G aD G)))
   ·exact fun _ _=>dk G G (dk G G (dk G G (aB (bI G G G jT lL i G cp cg (aE G aD G)))))
   ·intro _ cx
    have o:=f.trans cx
    refine dk G G (dk G G (aB (aP G G (dC oX (o.cell ch)) ?_)))
    exact aE G aD rfl
   ·exact fun _ _=>dk G G (aB (pf g7 1 G (aE G aD G)))
   ·exact fun _ br=>dk G G (dk G G (aB (aP G G (bA cZ (ag.ext br) G) (aE G aD G))))
   ·intro _ bt
    have o:=f.trans bt
    refine dk G G (dk G G (dk G G (aB (cl (vs:= [AT (some ⟨γ i,0,none⟩) ((ω i).length+80) ((ω i).length+80),AT M ((ω i).length) I]) o (FF (xs:=(ω i)) (am.ext o) (an.ext o) (a6 (hK i F) (by decide))) G (by kernel_rfl) fun _ _ bo bu dd=>?_))))
    obtain rfl:=bo
    exact aE G bu rfl
   ·exact fun _ _=>dk G G (dk G G (aB (pu (v:= BY) G (aE G aD G))))
   ·exact fun _ _=>dk G G (dk G G (aB (pu (v:= BY) G (aE G aD G))))
   ·intro bi bv
    have o:=f.trans bv
    refine dk G G (dk G G (dk G G (dk G G (dk G G (dk G G (dk G G (dk G G (dk G G (dk G G (dk G G (dk G G (dk G G (dk G G ?_)))))))))))))
    refine dk G G (dk G G (dk G G (aB (aR (cF (aK (aV G (b8 (bM (aK (aJ (mv 1 G (aT G G G ((i+1:Nat):Int) (bK (a:=i) (b:=1) G G) ?_)))))))))))))
    refine mv 1 G (aR (bX (⟨bi,i+1⟩:a7×Nat) ⟨o,(by omega)⟩ (show n+80-(i+1)<n+80-i by omega) G ⟨rfl,rfl,rfl,rfl,Fo⟩))
  ·refine aJ (mv 2 G (pu (v:= v4 n) G (aN G G G false (cL (a:=i) (b:=n) G G) (aA (aV G (b8 (aK (aH ?_))))))))
   have X:dD n ω i= [E]:=(oG F).trans (congrArg (fun x=> [x]) aw)
   obtain⟨ab,av,ar⟩:=oF hX (i:=i) (by omega) (show us[i*2]?=some (.bool (decide (i%2=0))) by rw [(hC i D).1,BX F]) (show us[i*2+1]?=some (.slice (some ⟨γ i,0,none⟩) [E].length ([E].length+80)) by rw [(hC i D).2,X])
   have Y:=rQ (hF.1 i D).2.2 G (hF.1 i D).2.1 (a6 (rS hK i) (by decide))
   rw [X] at Y
   have W:dD n ω i= [E]:=(oG F).trans (congrArg (fun x=> [x]) aw)
   obtain⟨aj,bd,au⟩:=xK hW (i:=i) (show ws[i]?=some (AT (some ⟨γ i,0,none⟩) ([E].length+80) ([E].length+80)) by rw [hD i D,W])
   have Z:=CE (hF.1 i D).2.2 G (hF.1 i D).2.1 (a6 (rS hK i) (by decide))
   rw [W] at Z
   refine cU bR 17 [] [Is (AT AX (n+80) cX),Is (v4 i),Is (.pointer (some ab)),Is (.agg #[.bool (decide (i%2=0)),AT (some ⟨γ i,0,none⟩) ([E].length) ([E].length+80)]),Is (.agg #[.bool (decide (i%2=0)),AT (some ⟨g1,0,none⟩) 1 1]),Is (By),Is (BY),Is (BY),Is (AT AW (n+80) cW),Is (v4 i),Is (.pointer (some aj)),Is (AT (some ⟨γ i,0,none⟩) ([E].length+80) ([E].length+80)),Is (no g7 1),Is (AT (some ⟨g1,0,none⟩) 1 1),Is (By),Is (BY),Is (BY)] [[],[],[0,1],[2],[],[3,4],[5],[6],[7],[7],[7,8,9],[7,10],[7],[7,12],[7,11,13],[7,14],[7,15]] [[],[],[0,1],[0,1,2],[],[0,1,2,3,4],[0,1,2,3,4,5],[0,1,2,3,4,5,6],[0,1,2,3,4,5,6,7],[0,1,2,3,4,5,6,7],[0,1,2,3,4,5,6,7,8,9],[0,1,2,3,4,5,6,7,8,9,10],[0,1,2,3,4,5,6,7],[0,1,2,3,4,5,6,7,12],[0,1,2,3,4,5,6,7,8,9,10,11,12,13],[0,1,2,3,4,5,6,7,8,9,10,11,12,13,14],[0,1,2,3,4,5,6,7,8,9,10,11,12,13,14,15]] rfl
    (aF G G (aC G G ?_) (aF G G (aC G G ?_) (aF G G (aC G G ?_) (aF G G (aC G G ?_) (aF G G (aC G G ?_) (aF G G (aC G G ?_) (aF G G (aC G G ?_) (aF G G (aC G G ?_) (aF G G (aC G G ?_) (aF G G (aC G G ?_) (aF G G (aC G G ?_) (aF G G (aC G G ?_) (aF G G (aC G G ?_) (aF G G (aC G G ?_) (aF G G (aC G G ?_) (aF G G (aC G G ?_) (aF G G (aC G G ?_) cE))))))))))))))))) ?_
   ·exact fun _ _=>aB (mv 1 G (aE G aD G))
   ·exact fun _ _=>aB (mv 1 G (aE G aD G))
   ·exact fun _ _=>dk G G (dk G G (aB (bI G G G d9 a8.size i G ab av (aE G aD G))))
   ·intro _ bj
    have f:=H.trans bj
    refine dk G G (aB (aP G G (ar _ f _ _ a8) ?_))
    exact aE G aD rfl
   ·exact fun _ cu=>aB (lo a8 (U.ext cu) [.bool (decide (i%2=0)),AT (some ⟨g1,0,none⟩) 1 1] G G G (aE G aD G))
   ·intro _ ae
    have f:=H.trans ae
    refine dk G G (dk G G (aB (cl (vs:= [.agg #[.bool (decide (i%2=0)),AT (some ⟨γ i,0,none⟩) ([E].length) ([E].length+80)],.agg #[.bool (decide (i%2=0)),AT (some ⟨g1,0,none⟩) 1 1]]) f (FD (xs:= [E]) (Y.ext f) (D1 _) (tZ (x:=E) (((az.ext bc).updTT V (by decide) cm).ext ae))) G (by kernel_rfl) fun _ _ cn ct o=>?_)))
    obtain rfl:=cn
    exact aE G ct rfl
   ·exact fun _ _=>dk G G (aB (pu (v:= BY) G (aE G aD G)))
   ·exact fun _ _=>dk G G (aB (mv 1 G (aE G aD G)))
   ·exact fun _ _=>dk G G (aB (mv 1 G (aE G aD G)))
   ·exact fun _ _=>dk G G (aB (mv 1 G (aE G aD G)))
   ·exact fun _ _=>dk G G (dk G G (dk G G (aB (bI G G G jT lL i G aj bd (aE G aD G)))))
   ·intro _ ck
    have f:=H.trans ck
    refine dk G G (dk G G (aB (aP G G (dC oX (f.cell au)) ?_)))
    exact aE G aD rfl
   ·exact fun _ _=>dk G G (aB (pf g7 1 G (aE G aD G)))
   ·exact fun _ cj=>dk G G (dk G G (aB (aP G G (bA cZ (U.ext cj) G) (aE G aD G))))
   ·intro _ ak
    have f:=H.trans ak
    refine dk G G (dk G G (dk G G (aB (cl (vs:= [AT (some ⟨γ i,0,none⟩) ([E].length+80) ([E].length+80),AT (some ⟨g1,0,none⟩) 1 1]) f (FF (xs:= [E]) (Z.ext f) (tZ (x:=E) (((az.ext bc).updTT V (by decide) cm).ext ak)) (a6 (D1 _) (by decide))) G (by kernel_rfl) fun _ _ bg bm o=>?_))))
    obtain rfl:=bg
    exact aE G bm rfl
   ·exact fun _ _=>dk G G (dk G G (aB (pu (v:= BY) G (aE G aD G))))
   ·exact fun _ _=>dk G G (dk G G (aB (pu (v:= BY) G (aE G aD G))))
   ·intro co ci
    have f:=H.trans ci
    refine dk G G (dk G G (dk G G (dk G G (dk G G (dk G G (dk G G (dk G G (dk G G (dk G G (dk G G (dk G G (dk G G (dk G G ?_)))))))))))))
    refine dk G G (dk G G (dk G G (aB (aR (cF (aK (aV G (b8 (bM (aK (aJ (mv 1 G (aT G G G ((i+1:Nat):Int) (bK (a:=i) (b:=1) G G) ?_)))))))))))))
    refine mv 1 G (aR (bX (⟨co,i+1⟩:a7×Nat) ⟨f,(by omega)⟩ (show n+80-(i+1)<n+80-i by omega) G ⟨rfl,rfl,rfl,rfl,Fo⟩))
 ·refine aJ (mv 2 G (pu (v:= v4 (((n+80):Nat):Int)) G (aN G G G false (cL (a:=i) (b:=n+80) G G) (aA (aV G (cR (cK (cN (cO (aK (sr (mv 1 G (aR ?_)))))))))))))
  refine aK (bD (bC [By] G ⟨rfl,Fo⟩ ?_))
  exact⟨_,rfl,rfl,bf⟩
theorem EY {k:Int}{e:Nat→ZC}{nb ka kb kd ke:Nat}(hX:Own w b 24 2 AX m cX us)(he:Ce us m e)(hm:4+n1+n2≤m)(hn1:n1≤1048576)(hn2:n2≤1048576):aQ aM 12 #[.agg #[v4 k,.bool sa,AT Aa na ka,.bool sb,AT Ab nb kb,.bool sd,AT Ad nd kd,.bool se,AT Ae ne ke,AT AL n1 c1,AT AM n2 c2],AT AX m cX] w (Gv w (Is (.agg #[v4 k,.bool (e 0).s,.slice (e 0).A (e 0).n (e 0).c,.bool (e 1).s,.slice (e 1).A (e 1).n (e 1).c,.bool (e 2).s,.slice (e 2).A (e 2).n (e 2).c,.bool (e 3).s,.slice (e 3).A (e 3).n (e 3).c,AT (dI AX cX 4) n1 (cX-4),AT (dI AX cX (4+n1)) n2 (cX-(4+n1))]))):=by
 have au:=hX.rv.le
 refine bP Tryz.func12 G (n:=38) G (bq G) (args:= [.agg #[v4 k,.bool sa,AT Aa na ka,.bool sb,AT Ab nb kb,.bool sd,AT Ad nd kd,.bool se,AT Ae ne ke,AT AL n1 c1,AT AM n2 c2],AT AX m cX]) (bH [(0,.agg #[v4 k,.bool sa,AT Aa na ka,.bool sb,AT Ab nb kb,.bool sd,AT Ad nd kd,.bool se,AT Ae ne ke,AT AL n1 c1,AT AM n2 c2]),(1,AT AX m cX)] ⟨rfl,rfl,Fo⟩ (sr (mB G G (vs:= [v4 k,.bool sa,AT Aa na ka,.bool sb,AT Ab nb kb,.bool sd,AT Ad nd kd,.bool se,AT Ae ne ke,AT AL n1 c1,AT AM n2 c2]) G fun q v2 nb=>?_)))
 have gw_g1:w.heap.size≤q:=by rw [←nb.at_];exact aS _
 have o:=nb.bk
 have ba:w.heap.size≤q:=by rw [←nb.at_];exact (Ext.refl w).size
 have e3:=nb.ext
 clear nb
 have W:=(Ext.refl w).trans e3
 refine dW G (z:= .agg #[I0,F0,S0,F0,S0,F0,S0,F0,S0,S0,S0]) (vs:= [I0,F0,S0,F0,S0,F0,S0,F0,S0,S0,S0]) (fun _=>by kernel_rfl) G fun g6 _ nb=>?_
 have gw_g6:v2.heap.size≤g6:=by rw [←nb.at_];exact aS _
 have aj:=nb.bk
 have U:w.heap.size≤g6:=by rw [←nb.at_];exact W.size
 have az:q<g6:=by rw [←nb.at_];exact o.lt
 have e8:=nb.ext
 clear nb
 have h:=W.trans e8
 refine aA (sr (pf q 9 G (aP G G (bA (fun _=>by kernel_rfl) (o.ext e8) G) (pu (v:= v4 n1) G (mv 1 G (aA (aH ?_)))))))
 obtain⟨ab,V,ag⟩:=oF hX (i:=0) (by omega) (he 0 (by omega)).1 (he 0 (by omega)).2
 obtain⟨I,X,L⟩:=oF hX (i:=1) (by omega) (he 1 (by omega)).1 (he 1 (by omega)).2
 obtain⟨M,F,ae⟩:=oF hX (i:=2) (by omega) (he 2 (by omega)).1 (he 2 (by omega)).2
 obtain⟨Y,Z,aa⟩:=oF hX (i:=3) (by omega) (he 3 (by omega)).1 (he 3 (by omega)).2
 refine cU bR 29 [] [Is (no q 0),Is (v4 k),Is (AT AX m cX),Is (.pointer (some ab)),Is (.agg #[.bool (e 0).s,.slice (e 0).A (e 0).n (e 0).c]),Is (AT AX m cX),Is (.pointer (some I)),Is (.agg #[.bool (e 1).s,.slice (e 1).A (e 1).n (e 1).c]),Is (AT AX m cX),Is (.pointer (some M)),Is (.agg #[.bool (e 2).s,.slice (e 2).A (e 2).n (e 2).c]),Is (AT AX m cX),Is (.pointer (some Y)),Is (.agg #[.bool (e 3).s,.slice (e 3).A (e 3).n (e 3).c]),Is (AT AX m cX),Is (v4 n1),Is (v4 ((4+n1:Nat):Int)),Is (AT (dI AX cX 4) n1 (cX-4)),Is (AT AX m cX),Is (v4 n1),Is (v4 ((4+n1:Nat):Int)),Is (v4 n1),Is (v4 ((4+n1:Nat):Int)),Is (no q 10),Is (AT AM n2 c2),Is (v4 n2),Is (v4 (((4+n1)+n2:Nat):Int)),Is (AT (dI AX cX (4+n1)) n2 (cX-(4+n1))),Is (.agg #[v4 k,.bool (e 0).s,.slice (e 0).A (e 0).n (e 0).c,.bool (e 1).s,.slice (e 1).A (e 1).n (e 1).c,.bool (e 2).s,.slice (e 2).A (e 2).n (e 2).c,.bool (e 3).s,.slice (e 3).A (e 3).n (e 3).c,AT (dI AX cX 4) n1 (cX-4),AT (dI AX cX (4+n1)) n2 (cX-(4+n1))])] [[],[0],[],[2],[3],[],[5],[6],[],[8],[9],[],[11],[12],[],[],[15],[14,16],[],[],[19],[],[21],[],[23],[24],[22,25],[18,20,26],[1,4,7,10,13,17,27]] [[],[0],[],[2],[2,3],[],[5],[5,6],[],[8],[8,9],[],[11],[11,12],[],[],[15],[14,15,16],[],[],[19],[],[21],[],[23],[23,24],[21,22,23,24,25],[18,19,20,21,22,23,24,25,26],[0,1,2,3,4,5,6,7,8,9,10,11,12,13,14,15,16,17,18,19,20,21,22,23,24,25,26,27],[0,1,2,3,4,5,6,7,8,9,10,11,12,13,14,15,16,17,18,19,20,21,22,23,24,25,26,27,28]] rfl
  (aF G G (aC G G ?_) (aF G G (aC G G ?_) (aF G G (aC G G ?_) (aF G G (aC G G ?_) (aF G G (aC G G ?_) (aF G G (aC G G ?_) (aF G G (aC G G ?_) (aF G G (aC G G ?_) (aF G G (aC G G ?_) (aF G G (aC G G ?_) (aF G G (aC G G ?_) (aF G G (aC G G ?_) (aF G G (aC G G ?_) (aF G G (aC G G ?_) (aF G G (aC G G ?_) (aF G G (aC G G ?_) (aF G G (aC G G ?_) (aF G G (aC G G ?_) (aF G G (aC G G ?_) (aF G G (aC G G ?_) (aF G G (aC G G ?_) (aF G G (aC G G ?_) (aF G G (aC G G ?_) (aF G G (aC G G ?_) (aF G G (aC G G ?_) (aF G G (aC G G ?_) (aF G G (aC G G ?_) (aF G G (aC G G ?_) (aF G G (aC G G ?_) cE))))))))))))))))))))))))))))) ?_
 ·exact fun _ _=>aB (pf q 0 G (aE G aD G))
 ·exact fun _ am=>dk G G (aB (aP G G (bA (fun _=>by kernel_rfl) (o.ext (e8.t am)) G) (aE G aD G)))
 ·exact fun _ _=>aB (mv 1 G (aE G aD G))
 ·exact fun _ _=>dk G G (aB (bI G G G d9 a8.size 0 G ab V (aE G aD G)))
 ·intro _ ao
  have f:=h.trans ao
  refine dk G G (aB (aP G G (ag _ f _ _ a8) ?_))
  exact aE G aD rfl
 ·exact fun _ _=>aB (mv 1 G (aE G aD G))
 ·exact fun _ _=>dk G G (aB (bI G G G d9 a8.size 1 G I X (aE G aD G)))
 ·intro _ ai
  have f:=h.trans ai
  refine dk G G (aB (aP G G (L _ f _ _ a8) ?_))
  exact aE G aD rfl
 ·exact fun _ _=>aB (mv 1 G (aE G aD G))
 ·exact fun _ _=>dk G G (aB (bI G G G d9 a8.size 2 G M F (aE G aD G)))
 ·intro _ an
  have f:=h.trans an
  refine dk G G (aB (aP G G (ae _ f _ _ a8) ?_))
  exact aE G aD rfl
 ·exact fun _ _=>aB (mv 1 G (aE G aD G))
 ·exact fun _ _=>dk G G (aB (bI G G G d9 a8.size 3 G Y Z (aE G aD G)))
 ·intro _ ak
  have f:=h.trans ak
  refine dk G G (aB (aP G G (aa _ f _ _ a8) ?_))
  exact aE G aD rfl
 ·exact fun _ _=>aB (mv 1 G (aE G aD G))
 ·exact fun _ _=>aB (mv 1 G (aE G aD G))
 ·exact fun _ _=>dk G G (aB (aT G G G ((4+n1:Nat):Int) (bK (a:=4) (b:=n1) G G) (aE G aD G)))
 ·exact fun _ _=>dk G G (dk G G (aB (pN G G d9 a8.size (lo:=4) (hi:=4+n1) G G (by omega) (by omega) (v:= AT (dI AX cX 4) n1 (cX-4)) (BM _ _ _ _) (by decide) (aE G aD G))))
 ·exact fun _ _=>aB (mv 1 G (aE G aD G))
 ·exact fun _ _=>aB (mv 1 G (aE G aD G))
 ·exact fun _ _=>dk G G (aB (aT G G G ((4+n1:Nat):Int) (bK (a:=4) (b:=n1) G G) (aE G aD G)))
 ·exact fun _ _=>aB (mv 1 G (aE G aD G))
 ·exact fun _ _=>dk G G (aB (aT G G G ((4+n1:Nat):Int) (bK (a:=4) (b:=n1) G G) (aE G aD G)))
 ·exact fun _ _=>aB (pf q 10 G (aE G aD G))
 ·exact fun _ H=>dk G G (aB (aP G G (bA (fun _=>by kernel_rfl) (o.ext (e8.t H)) G) (aE G aD G)))
 ·exact fun _ _=>dk G G (aB (pu (v:= v4 n2) G (aE G aD G)))
 ·exact fun _ _=>dk G G (dk G G (aB (aT G G G (((4+n1)+n2:Nat):Int) (bK (a:=4+n1) (b:=n2) G G) (aE G aD G))))
 ·exact fun _ _=>dk G G (dk G G (dk G G (aB (pN G G d9 a8.size (lo:=4+n1) (hi:=(4+n1)+n2) G G (by omega) (by omega) (v:= AT (dI AX cX (4+n1)) n2 (cX-(4+n1))) (BM _ _ _ _) (by decide) (aE G aD G)))))
 ·exact fun _ _=>dk G G (dk G G (dk G G (dk G G (dk G G (dk G G (dk G G (aB (pu (v:= .agg #[v4 k,.bool (e 0).s,.slice (e 0).A (e 0).n (e 0).c,.bool (e 1).s,.slice (e 1).A (e 1).n (e 1).c,.bool (e 2).s,.slice (e 2).A (e 2).n (e 2).c,.bool (e 3).s,.slice (e 3).A (e 3).n (e 3).c,AT (dI AX cX 4) n1 (cX-4),AT (dI AX cX (4+n1)) n2 (cX-(4+n1))]) G (aE G aD G)))))))))
 ·intro _ p
  have f:=h.trans p
  refine dk G G (dk G G (dk G G (dk G G (dk G G (dk G G (dk G G (dk G G (dk G G (dk G G (dk G G (dk G G (dk G G (dk G G ?_)))))))))))))
  refine dk G G (dk G G (dk G G (dk G G (dk G G (dk G G (dk G G (dk G G (dk G G (dk G G (dk G G (dk G G (dk G G (dk G G ?_)))))))))))))
  refine dk G G (aB ?_)
  have E:=(aj.ext p)
  refine so j7 E [v4 k,.bool (e 0).s,.slice (e 0).A (e 0).n (e 0).c,.bool (e 1).s,.slice (e 1).A (e 1).n (e 1).c,.bool (e 2).s,.slice (e 2).A (e 2).n (e 2).c,.bool (e 3).s,.slice (e 3).A (e 3).n (e 3).c,AT (dI AX cX 4) n1 (cX-4),AT (dI AX cX (4+n1)) n2 (cX-(4+n1))] f U G G G G fun _ D _ aq=>(aR (cF (aK (bD (bC [.agg #[v4 k,.bool (e 0).s,.slice (e 0).A (e 0).n (e 0).c,.bool (e 1).s,.slice (e 1).A (e 1).n (e 1).c,.bool (e 2).s,.slice (e 2).A (e 2).n (e 2).c,.bool (e 3).s,.slice (e 3).A (e 3).n (e 3).c,AT (dI AX cX 4) n1 (cX-4),AT (dI AX cX (4+n1)) n2 (cX-(4+n1))]] G ⟨⟨_,rfl,aW j7 D [v4 k,.bool (e 0).s,.slice (e 0).A (e 0).n (e 0).c,.bool (e 1).s,.slice (e 1).A (e 1).n (e 1).c,.bool (e 2).s,.slice (e 2).A (e 2).n (e 2).c,.bool (e 3).s,.slice (e 3).A (e 3).n (e 3).c,AT (dI AX cX 4) n1 (cX-4),AT (dI AX cX (4+n1)) n2 (cX-(4+n1))] G (bq G) rfl⟩,Fo⟩ ?_)))))
  exact⟨_,rfl,rfl,aq⟩
theorem P3 {v0:a7}{lo:Nat}{σ:Nat→Bool}{γ:Nat→Nat}{ω:Nat→List Nat}(hw1:Ext w v0)(hwlo:w.heap.size≤lo)(hX:Own v0 b 24 2 AX m cX us)(hC:Cz us m σ γ ω)(hF0:Fam v0 b m γ ω)(hlh:∀j,j<n→lo≤γ j∧γ j<hi)(hn:n≤m)(hm:m≤4194304)(hK:∀j,j<n→(ω j).length≤1048576):aQ aM 17 #[AT AX m cX,v4 n] v0 (TJ lo hi b m n γ ω v0):=by
 refine bP Tryz.func17 G (n:=35) G (bq G) (args:= [AT AX m cX,v4 n]) (bH [(0,AT AX m cX),(1,v4 n)] ⟨rfl,rfl,Fo⟩ (sr (mv 1 G (aA (bG ?_)))))
 refine cQ (T:=a7×Nat)
  (fun⟨wr,i⟩=> [(0,AT AX m cX),(1,v4 n),(4,v4 i)])
  (fun⟨wr,i⟩=>wr)
  (fun⟨wr,i⟩=>(Ext w wr)∧(i≤n)∧(UpT lo hi v0 wr)∧(Fam wr b m γ (tU i ω)))
  (fun⟨wr,i⟩=>n-i)
  (⟨v0,0⟩:a7×Nat) ⟨hw1,(bJ _),(UpT.of_ext _ _ aD),(by rw [K0];exact hF0)⟩ G ⟨rfl,rfl,rfl,Fo⟩ ?_
 rintro⟨wr,i⟩ ⟨hw1,_,p,M⟩
 refine cP [(0,AT AX m cX),(1,v4 n),(4,v4 i)] wr G ⟨rfl,rfl,rfl,Fo⟩ ?_
 have E:=p.ownT hX (by decide)
 refine aH (aH ?_)
 by_cases f:i<n
 ·refine aJ (mv 2 G (aN G G G true (cG (a:=i) (b:=n) G G) (aA (bB G (b8 (aK (aH (bG (aH ?_)))))))))
  obtain⟨g,o⟩:∃g,γ i=g:=⟨_,rfl⟩
  have q:=(M.1 i (by omega)).2.2
  rw [BD,o] at q
  have Y:=(hC i (by omega)).2
  rw [o] at Y
  have I:w.heap.size≤g:=by rw [←o];exact a6 hwlo (hlh i f).1
  have ab:=hK i f
  refine aJ (mv 2 G ?_)
  obtain⟨X,D⟩:=CX E (i:=i) (by omega)
  have F:=CW E D (by omega) Y
  refine bI G G G d9 a8.size i G X D (pu (v:= .pointer (some (X.add 1))) G (aP G G (dC (fun _=>by kernel_rfl) F) (mv 1 G (aA (sr (mv 1 G (aA (bG ?_))))))))
  refine cQ (T:=a7×Nat)
   (fun⟨wq,j⟩=> [(0,AT AX m cX),(1,v4 n),(4,v4 i),(5,AT (some ⟨g,0,none⟩) ((ω i).length) ((ω i).length+80)),(6,v4 j)])
   (fun⟨wq,j⟩=>wq)
   (fun⟨wq,j⟩=>(Ext w wq)∧(j≤(ω i).length)∧(Bk wq g 36 ((eQ j (ω i)++fZ (ω i).length).map aY))∧(Upd g wr wq))
   (fun⟨wq,j⟩=>(ω i).length-j)
   (⟨wr,0⟩:a7×Nat) ⟨hw1,(bJ _),(by rw [JQ];exact q),(Upd.refl _ _)⟩ G ⟨rfl,rfl,rfl,rfl,rfl,Fo⟩ ?_
  rintro⟨wq,j⟩ ⟨hw1,hj,hb,U⟩
  refine cP [(0,AT AX m cX),(1,v4 n),(4,v4 i),(5,AT (some ⟨g,0,none⟩) ((ω i).length) ((ω i).length+80)),(6,v4 j)] wq G ⟨rfl,rfl,rfl,rfl,rfl,Fo⟩ (aH (aH ?_))
  by_cases W:j<(ω i).length
  ·refine aJ (mv 2 G (pu (v:= v4 (((ω i).length:Nat):Int)) G (aN G G G true (cG (a:=j) (b:=(ω i).length) G G) (aA (bB G (b8 (aK (aH (bG (aJ (mv 4 G (bI G G G bT bL j G ⟨g,j,none⟩ (dN _ _) (aP G G (gY d6 hb (by rw [(show (eQ j (ω i)++fZ (ω i).length).length=(ω i).length+80 by rw [fH,rM hj,oJ])];omega)) ?_)))))))))))))
   refine aT G G G (((3*((eQ j (ω i)++fZ (ω i).length).getD j 0))%18446744073709551616:Nat):Int) (SY (a:=3) (b:=(eQ j (ω i)++fZ (ω i).length).getD j 0) G G) (mv 1 G (kS G G (v:= AI (IntKind.u64.wrap ((j:Nat):Int))) (v':= AI j) (nS (by first | omega | exact hle64)) (aT G G G (((((3*((eQ j (ω i)++fZ (ω i).length).getD j 0))%18446744073709551616)+j)%18446744073709551616:Nat):Int) (GU (a:=(3*((eQ j (ω i)++fZ (ω i).length).getD j 0))%18446744073709551616) (b:=j) G G) (aT G G G (((((((3*((eQ j (ω i)++fZ (ω i).length).getD j 0))%18446744073709551616)+j)%18446744073709551616)+1)%18446744073709551616:Nat):Int) (GU (a:=(((3*((eQ j (ω i)++fZ (ω i).length).getD j 0))%18446744073709551616)+j)%18446744073709551616) (b:=1) G G) (bI G G G bT bL j G ⟨g,j,none⟩ (dN _ _) ?_)))))
   have V:=hb
   refine eJ G G G bL G V (gQ (by rw [(show (eQ j (ω i)++fZ (ω i).length).length=(ω i).length+80 by rw [fH,rM hj,oJ])];omega)) G (((eQ j (ω i)++fZ (ω i).length).set j ((((((3*((eQ j (ω i)++fZ (ω i).length).getD j 0))%18446744073709551616)+j)%18446744073709551616)+1)%18446744073709551616)).map aY) (dO _ _ _) fun v2 H Z _=>?_
   have L:=Z.ext hw1 I
   refine aR (bM (aK (aJ (mv 1 G (aT G G G ((j+1:Nat):Int) (bK (a:=j) (b:=1) G G) (mv 1 G (aR (bX (⟨v2,j+1⟩:a7×Nat) ⟨L,(by omega),(by have h:=H;rwa [JP W] at h),(U.trans Z)⟩ (show (ω i).length-(j+1)<(ω i).length-j by omega) G ⟨rfl,rfl,rfl,rfl,rfl,Fo⟩))))))))
  ·obtain rfl:j=(ω i).length:=by omega
   refine aJ (mv 2 G (pu (v:= v4 (((ω i).length:Nat):Int)) G (aN G G G false (cL (a:=(ω i).length) (b:=(ω i).length) G G) (aA (aV G (cR (cK (cN (cO (bM (aK (aJ (mv 1 G ?_)))))))))))))
   refine aT G G G ((i+1:Nat):Int) (bK (a:=i) (b:=1) G G) (mv 1 G (aR (bX (⟨wq,i+1⟩:a7×Nat) ⟨hw1,(by omega),(p.trans (UpT.of_upd q (by rw [←o];exact (hlh i f).1) (by rw [←o];exact (hlh i f).2) U)),(M.turn (by omega) (by rw [o];exact U) (by rw [o];exact hb))⟩ (show n-(i+1)<n-i by omega) G ⟨rfl,rfl,rfl,Fo⟩)))
 ·refine aJ (mv 2 G (aN G G G false (cL (a:=i) (b:=n) G G) (aA (aV G (cR (cK (cN (cO (qG [] G Fo ?_)))))))))
  obtain rfl:i=n:=by omega
  exact⟨rfl,p,M⟩
structure Sg (w:a7)(lb:Nat)(P:Nat→Prop)(ls:List Lst):Prop where
 al:Al0 w lb ls
 rg:∀a,a<ls.length→∀p,(ls.getD a Lst.z).A=some p→P p.block
section
variable {w w':a7}{lb:Nat}{P Q:Nat→Prop}{ls l1 l2:List Lst}
theorem Sg.imp (h:Sg w lb P ls)(hi:∀g,P g→Q g):Sg w lb Q ls:=⟨h.al,fun a f p o=>hi _ (h.rg a f p o)⟩
theorem Sg.one (ho:Own w lb 36 1 A n c (xs.map aY))(hr:∀p,A=some p→P p.block):Sg w lb P [⟨A,n,c⟩]:=by
 refine⟨⟨fun a b f hb _=>?_,fun a f=>?_⟩,fun a f=>?_⟩
 ·simp only [List.length_singleton] at f hb;omega
 ·obtain rfl:a=0:=by simpa using f
  exact⟨xs,ho,fun h=>absurd h (Nat.not_lt_zero _),fun _=>rfl⟩
 ·obtain rfl:a=0:=by simpa using f
  exact hr
theorem yB (l1 l2:List Lst)(a:Nat):(l1++l2).getD a Lst.z=if a<l1.length then l1.getD a Lst.z else l2.getD (a-l1.length) Lst.z:=by
 simp only [bE]
 split
 ·rename_i h;rw [List.getElem?_append_left h]
 ·rename_i h;rw [List.getElem?_append_right (by omega)]
theorem Sg.app (h:Sg w lb P l1)(k:Sg w lb Q l2)(hd:∀g,P g→Q g→False):Sg w lb (fun g=>P g∨Q g) (l1++l2):=by
 have H:(l1++l2).length=l1.length+l2.length:=fH
 refine⟨⟨fun a b I hb F p q f E e=>?_,fun a I=>?_⟩,fun a I p f=>?_⟩
 ·rw [yB] at f E
  by_cases o:a<l1.length
  ·rw [if_pos o] at f
   by_cases D:b<l1.length
   ·rw [if_pos D] at E;exact h.al.dis a b o D F p q f E e
   ·rw [if_neg D] at E
    exact hd p.block (h.rg a o p f) (e▸k.rg (b-l1.length) (by omega) q E)
  ·rw [if_neg o] at f
   by_cases D:b<l1.length
   ·rw [if_pos D] at E
    exact hd q.block (h.rg b D q E) (e▸k.rg (a-l1.length) (by omega) p f)
   ·rw [if_neg D] at E;exact k.al.dis _ _ (by omega) (by omega) (by omega) p q f E e
 ·rw [yB]
  by_cases o:a<l1.length
  ·rw [if_pos o]
   obtain⟨xs,D,_⟩:=h.al.own a o
   exact⟨xs,D,fun h=>absurd h (Nat.not_lt_zero _),fun _=>rfl⟩
  ·rw [if_neg o]
   obtain⟨xs,D,_⟩:=k.al.own (a-l1.length) (by omega)
   exact⟨xs,D,fun h=>absurd h (Nat.not_lt_zero _),fun _=>rfl⟩
 ·rw [yB] at f
  by_cases o:a<l1.length
  ·rw [if_pos o] at f;exact bS (h.rg a o p f)
  ·rw [if_neg o] at f;exact bW (k.rg (a-l1.length) (by omega) p f)
end
theorem E6 {ls:List Lst}(h:∀x,x∈ls→x.n≤M)(a:Nat):(ls.getD a Lst.z).n≤M:=by
 rw [bE]
 by_cases f:a<ls.length
 ·rw [cA f];exact h _ (List.getElem_mem f)
 ·rw [List.getElem?_eq_none (by omega)];exact bJ _
section
variable {w w':a7}{lo hi:Nat}
end
def Cs (w:a7)(us:List aI)(n:Nat)(σ:Nat→Bool)(ω:Nat→List Nat):Prop:=∀j,j<n→∃B c,us[j*2]?=some (.bool (σ j))∧us[j*2+1]?=some (.slice B (ω j).length c)∧Rd w B (ω j).length c (ω j)
section
variable {w w':a7}{us vs:List aI}{n m:Nat}{σ τ:Nat→Bool}{ω υ:Nat→List Nat}
def jn {α:Type}(n:Nat)(f g:Nat→α)(j:Nat):α:=if j<n then f j else g (j-n)
theorem Cs.app (h:Cs w us n σ ω)(hl:us.length=n*2)(k:Cs w vs m τ υ):Cs w (us++vs) (n+m) (jn n σ τ) (jn n ω υ):=fun j hj=>by
 unfold jn
 by_cases e:j<n
 ·obtain⟨B,c,f,p,o⟩:=h j e
  rw [if_pos e,if_pos e]
  exact⟨B,c,by rw [List.getElem?_append_left (by omega)];exact f,by rw [List.getElem?_append_left (by omega)];exact p,o⟩
 ·obtain⟨B,c,f,p,o⟩:=k (j-n) (by omega)
  rw [if_neg e,if_neg e]
  exact⟨B,c,by rw [List.getElem?_append_right (by omega),hl,show j*2-n*2=(j-n)*2 by omega];exact f,by rw [List.getElem?_append_right (by omega),hl,show j*2+1-n*2=(j-n)*2+1 by omega];exact p,o⟩
theorem Cs.ext (h:Cs w us n σ ω)(e:Ext w w'):Cs w' us n σ ω:=fun j hj=>by
 obtain⟨B,c,f,p,o⟩:=h j hj
 exact⟨B,c,f,p,o.ext e⟩
theorem Cs.zw (h:Cs w us n σ ω)(ho:Own w b 24 2 A n cap us):Zw w A n cap σ ω:=by
 refine⟨ho.rv.le,ho.rv.max,fun i hi=>?_⟩
 obtain⟨B,c,c1,E,q⟩:=h i hi
 have D:=jE ho
 obtain⟨a,p,f⟩:=ho.rv.get (i*2) (by omega)
 obtain⟨a',ha',o⟩:=ho.rv.get (i*2+1) (by omega)
 rw [p] at ha';cases ha'
 rw [bE,c1] at f
 rw [bE,E] at o
 exact⟨a,B,c,p,f,o,q⟩
end
def mQ (w:a7)(a:aG)(m:Nat):List aI:=(dB (m*2)).map fun j=>(w.cell? (a.add j)).getD undef
theorem Zw.cells {a:aG}{σ:Nat→Bool}{ω:Nat→List Nat}(h:Zw w (some a) m c σ ω):(∀j u,(mQ w a m)[j]?=some u→w.cell? (a.add j)=some u)∧(mQ w a m).all (·.oneCell')=true∧Cs w (mQ w a m) m σ ω:=by
 have get:∀j,j<m*2→(mQ w a m)[j]?=some ((w.cell? (a.add j)).getD undef):=fun j hj=>by
  unfold mQ;rw [fY,List.getElem?_range hj];rfl
 have c0:∀i,i<m→w.cell? (a.add (i*2))=some (.bool (σ i))∧∃B d,w.cell? (a.add (i*2+1))=some (.slice B (ω i).length d)∧Rd w B (ω i).length d (ω i):=fun i hi=>by
  obtain⟨a',B,d,e,f,o,q⟩:=h.2.2 i hi
  cases e
  exact⟨f,B,d,o,q⟩
 have any:∀j,j<m*2→∃u,w.cell? (a.add j)=some u∧u.oneCell'=true:=fun j hj=>by
  obtain⟨f,B,d,o,_⟩:=c0 (j/2) (by omega)
  by_cases e:j%2=0
  ·rw [show j/2*2=j by omega] at f;exact⟨_,f,rfl⟩
  ·rw [show j/2*2+1=j by omega] at o;exact⟨_,o,rfl⟩
 refine⟨fun j u hj=>?_,?_,fun i hi=>?_⟩
 ·have p:j<m*2:=by
   have:=(fD.1 hj).1
   unfold mQ at this
   rwa [List.length_map,List.length_range] at this
  obtain⟨u',f,_⟩:=any j p
  rw [get j p,f] at hj
  rw [f];exact hj
 ·rw [List.all_eq_true]
  intro u D
  unfold mQ at D
  obtain⟨j,hj,rfl⟩:=m6.1 D
  obtain⟨u',f,o⟩:=any j (fN.1 hj)
  rw [f];exact o
 ·obtain⟨f,B,d,o,q⟩:=c0 i hi
  exact⟨B,d,by rw [get _ (by omega),f];rfl,by rw [get _ (by omega),o];rfl,q⟩
section
variable {Q:Exit→Act→a7→Prop}{N:Nat}{l:Fr}{w w0:a7}{ops:Array Oper}{rest:List Oper}{d:Nat}{ty:aU}{pos:String}{af:Array Edge}{gd:Option (Nat×Bool)}
theorem AV {x y:Operand}{k:Nat}{σ τ:Nat→Bool}{ω υ:Nat→List Nat}(hw:dG ops l gd=some true)(hx:bY l x=some (AT A k cap))(hy:bY l y=some (AT B m c))(h:Own w lb 24 2 A k cap us)(hlb:lb≤w.heap.size)(hs:Cs w0 us k σ ω)(hz:Zw w0 B m c τ υ)(he:Ext w0 w)(hm:k+m≤1099511627776)(hd:d<N)(K:∀A' cap' us' w',Own w' lb 24 2 A' (k+m) cap' us'→Cs w0 us' (k+m) (jn k σ τ) (jn k ω υ)→UpdO A w w'→wl aM ops Q N rest ((d,AT A' (k+m) cap')::l) w'):wl aM ops Q N (⟨some d,.call {callee:= .builtin .append,args:= #[x,y],argTypes:= #[26,26]},ty,pos,af,gd⟩::rest) l w:=by
 have f:=jE h
 cases B with
 | none=>
  obtain rfl:m=0:=Nat.eq_zero_of_not_pos fun F=>by
   obtain⟨a,_,_,e,_⟩:=hz.2.2 0 F
   cases e
  obtain⟨i,hi,_,_,_⟩:=info_parts mJ
  have hr:=CA (P:=aM) w lb 26 ty 24 i 2 d9 hi _ k us h.row c
  refine gU hw hd (fun a' o=>?_) (K A cap us w h (fun j hj=>?_) (UpdO.refl A w))
  ·unfold execOp
   simp only [resolve,invoke,builtin,Sem.run_bind,Sem.run_pure,Result.andThen_ok,List.map_toArray,kH,lH,o.ev hx,o.ev hy]
   rw [hr]
   rfl
  ·unfold jn
   rw [if_pos (by omega),if_pos (by omega)]
   exact hs j (by omega)
 | some a=>
  obtain⟨p,H,q⟩:=hz.cells
  refine mC hw hx hy d9 mJ G h hlb (mQ w0 a m) (by unfold mQ;rw [List.length_map,List.length_range]) (fun j u hj=>he.cell (p j u hj)) H (hm:=hm) (hn:=hd) fun A' cap' w' E D _=>K A' cap' _ w' E (hs.app f q) D
end
def Cn (w:a7)(b:Nat)(us:List aI)(i:Nat)(z:Nat→Int):Prop:=∀j,j<i→∃s B n c,us[j*2]?=some (.bool s)∧us[j*2+1]?=some (AT B n c)∧Zr w b s B n c (z j)
section
variable {w w':a7}{b i:Nat}{us:List aI}{z:Nat→Int}
theorem Cn.ext (h:Cn w b us i z)(e:Ext w w'):Cn w' b us i z:=fun j hj=>by
 obtain⟨s,B,n,c,f,p,o⟩:=h j hj
 exact⟨s,B,n,c,f,p,o.ext e⟩
theorem Cn.updOT (h:Cn w b us i z)(ho:Own w lb 24 2 A m c vs)(u:UpdO A w w'):Cn w' b us i z:=fun j hj=>by
 obtain⟨s,B,n,d,f,p,o⟩:=h j hj
 exact⟨s,B,n,d,f,p,o.updOT ho u⟩
theorem Cn.set (h:Cn w b us i z)(hl:i*2+1<us.length)(hz:Zr w b s B n c (z i)):Cn w b ((us.set (i*2) (.bool s)).set (i*2+1) (AT B n c)) (i+1) z:=fun j hj=>by
 by_cases e:j=i
 ·subst e
  exact⟨s,B,n,c,by rw [List.getElem?_set_ne (by omega),List.getElem?_set_self (by omega)],by rw [List.getElem?_set_self (by rw [List.length_set];exact hl)],hz⟩
 ·obtain⟨s',B',n',c',f,p,o⟩:=h j (by omega)
  exact⟨s',B',n',c',by rw [List.getElem?_set_ne (by omega),List.getElem?_set_ne (by omega)];exact f,by rw [List.getElem?_set_ne (by omega),List.getElem?_set_ne (by omega)];exact p,o⟩
theorem Cn.ce (h:Cn w b us i z):∃e:Nat→ZC,Ce us i e∧∀j,j<i→Zr w b (e j).s (e j).A (e j).n (e j).c (z j):=by
 have key:∀j,∃e:ZC,j<i→us[j*2]?=some (.bool e.s)∧us[j*2+1]?=some (AT e.A e.n e.c)∧Zr w b e.s e.A e.n e.c (z j):=fun j=>by
  by_cases hj:j<i
  ·obtain⟨s,B,n,c,f,p,o⟩:=h j hj
   exact⟨⟨s,B,n,c⟩,fun _=>⟨f,p,o⟩⟩
  ·exact⟨ZC.zero,fun h=>absurd h hj⟩
 obtain⟨e,key⟩:=Classical.axiomOfChoice key
 exact⟨e,fun j hj=>⟨(key j hj).1,(key j hj).2.1⟩,fun j hj=>(key j hj).2.2⟩
end
theorem P4 {t:Ans6}{nap:Nat}{nbp cbp:Nat}{ndp cdp:Nat}{naq caq:Nat}{nbq cbq:Nat}{ndq cdq:Nat}(zap:Zr w b1 sap Aap nap cap t.X)(zbp:Zr w b1 sbp Abp nbp cbp t.Y)(zdp:Zr w b1 sdp Adp ndp cdp t.Z)(lzp:Lz none 8388608 b1 w b1 Bp t.n dp t.L)(hbp:b1≤w.heap.size)(zaq:Zr w b2 saq Aaq naq caq t.X)(zbq:Zr w b2 sbq Abq nbq cbq t.Y)(zdq:Zr w b2 sdq Adq ndq cdq t.Z)(lzq:Lz none 8388608 b2 w b2 Bq t.n dq t.L)(hbq:b2≤w.heap.size)(lX:ln t.X≤1099511627776)(lY:ln t.Y≤1099511627776)(lZ:ln t.Z≤1099511627776)(hn:t.n≤1048576):aQ aM 16 #[.agg #[.bool sap,AT Aap nap cap,.bool sbp,AT Abp nbp cbp,.bool sdp,AT Adp ndp cdp,AT Bp t.n dp,v4 t.E],.agg #[.bool saq,AT Aaq naq caq,.bool sbq,AT Abq nbq cbq,.bool sdq,AT Adq ndq cdq,AT Bq t.n dq,v4 t.E]] w (Gv w (Is (By))):=by
 refine bP Tryz.func16 G (n:=65) G (bq G) (args:= [.agg #[.bool sap,AT Aap nap cap,.bool sbp,AT Abp nbp cbp,.bool sdp,AT Adp ndp cdp,AT Bp t.n dp,v4 t.E],.agg #[.bool saq,AT Aaq naq caq,.bool sbq,AT Abq nbq cbq,.bool sdq,AT Adq ndq cdq,AT Bq t.n dq,v4 t.E]]) (bH [(0,.agg #[.bool sap,AT Aap nap cap,.bool sbp,AT Abp nbp cbp,.bool sdp,AT Adp ndp cdp,AT Bp t.n dp,v4 t.E]),(1,.agg #[.bool saq,AT Aaq naq caq,.bool sbq,AT Abq nbq cbq,.bool sdq,AT Adq ndq cdq,AT Bq t.n dq,v4 t.E])] ⟨rfl,rfl,Fo⟩ (aH ?_))
 have ck:=lzp.block
 have cp:=lzq.block
 refine aJ (mB G G (vs:= [.bool sap,AT Aap nap cap,.bool sbp,AT Abp nbp cbp,.bool sdp,AT Adp ndp cdp,AT Bp t.n dp,v4 t.E]) G fun H _ nb=>?_)
 have I:=nb.bk
 have cy:w.heap.size≤H:=by rw [←nb.at_];exact (Ext.refl w).size
 have cu:∀p,Bp=some p→p.block≠H:=fun p hp=>by have:=(lzp).block p hp;have:=nb.at_;omega
 have ct:∀p,Bq=some p→p.block≠H:=fun p hp=>by have:=(lzq).block p hp;have:=nb.at_;omega
 have L:=nb.ext
 clear nb
 have M:=(Ext.refl w).trans L
 refine mB G G (vs:= [.bool saq,AT Aaq naq caq,.bool sbq,AT Abq nbq cbq,.bool sdq,AT Adq ndq cdq,AT Bq t.n dq,v4 t.E]) G fun o _ nb=>?_
 have F:=nb.bk
 have cm:w.heap.size≤o:=by rw [←nb.at_];exact M.size
 have cv:H<o:=by rw [←nb.at_];exact I.lt
 have co:∀p,Bp=some p→p.block≠o:=fun p hp=>by have:=((lzp.ext L)).block p hp;have:=nb.at_;omega
 have cn:∀p,Bq=some p→p.block≠o:=fun p hp=>by have:=((lzq.ext L)).block p hp;have:=nb.at_;omega
 have h:=nb.ext
 clear nb
 have V:=M.trans h
 refine mv 1 G (aA (aH (sr (pf H 0 G (lo a8 (I.ext h) (O sap Aap nap cap) G G G (pf o 0 G (lo a8 F (O saq Aaq naq caq) G G G (cl (vs:= [J sap Aap nap cap,J saq Aaq naq caq]) V (oR (zap.ext (L.t h)) (zap.le (aL lX G)) (zaq.ext (L.t h)) (zaq.le (aL lX G))) G (by kernel_rfl) fun _ _ bz f bc=>?_))))))))
 obtain rfl:=bz
 refine pu (v:= BY) G (mv 1 G (pf H 2 G (lo a8 (I.ext (h.t f)) (O sbp Abp nbp cbp) G G G (pf o 2 G (lo a8 (F.ext f) (O sbq Abq nbq cbq) G G G (cl (vs:= [J sbp Abp nbp cbp,J sbq Abq nbq cbq]) bc (oR (zbp.ext (L.t (h.t f))) (zbp.le (aL lY G)) (zbq.ext (L.t (h.t f))) (zbq.le (aL lY G))) G (by kernel_rfl) fun _ _ br q bu=>?_))))))
 obtain rfl:=br
 refine pu (v:= BY) G (pu (v:= BY) G (mv 1 G (pf H 4 G (lo a8 (I.ext (h.t (f.t q))) (O sdp Adp ndp cdp) G G G (pf o 4 G (lo a8 (F.ext (f.t q)) (O sdq Adq ndq cdq) G G G (cl (vs:= [J sdp Adp ndp cdp,J sdq Adq ndq cdq]) bu (oR (zdp.ext (L.t (h.t (f.t q)))) (zdp.le (aL lZ G)) (zdq.ext (L.t (h.t (f.t q)))) (zdq.le (aL lZ G))) G (by kernel_rfl) fun _ bm cg E cj=>?_)))))))
 obtain rfl:=cg
 refine pu (v:= BY) G (pu (v:= BY) G (mv 1 G (pf H 7 G (aP G G (bA (fun _=>by kernel_rfl) (I.ext (h.t (f.t (q.t E)))) G) (pf o 7 G (aP G G (bA (fun _=>by kernel_rfl) (F.ext (f.t (q.t E))) G) (aN G G G false (uA G) (pu (v:= BY) G (mv 1 G (pf H 6 G (aP G G (bA (fun _=>by kernel_rfl) (I.ext (h.t (f.t (q.t E)))) G) (pu (v:= v4 ((t.n:Nat):Int)) G (pf o 6 G ?_)))))))))))))
 refine aP G G (bA (fun _=>by kernel_rfl) (F.ext (f.t (q.t E))) G) (pu (v:= v4 ((t.n:Nat):Int)) G (aN G G G false (iI (a:=t.n) (b:=t.n) G G) (pu (v:= BY) G (aA (aV G (b8 (aK (aH (sr (mv 1 G (aA (bG ?_))))))))))))
 refine cQ (T:=a7×Nat)
  (fun⟨wr,i⟩=> [(2,no H 0),(3,no o 0),(4,BY),(5,v4 i)])
  (fun⟨wr,i⟩=>wr)
  (fun⟨wr,i⟩=>(Ext w wr)∧(i≤t.n)∧(Bk wr H 45 [.bool sap,AT Aap nap cap,.bool sbp,AT Abp nbp cbp,.bool sdp,AT Adp ndp cdp,AT Bp t.n dp,v4 t.E])∧(Bk wr o 45 [.bool saq,AT Aaq naq caq,.bool sbq,AT Abq nbq cbq,.bool sdq,AT Adq ndq cdq,AT Bq t.n dq,v4 t.E])∧(Lz none 8388608 b1 wr b1 Bp t.n dp t.L)∧(b1≤wr.heap.size)∧(Lz none 8388608 b2 wr b2 Bq t.n dq t.L)∧(b2≤wr.heap.size))
  (fun⟨wr,i⟩=>t.n-i)
  (⟨bm,0⟩:a7×Nat) ⟨cj,bJ _,(I.ext (h.t (f.t (q.t E)))),(F.ext (f.t (q.t E))),(lzp.ext (L.t (h.t (f.t (q.t E))))),(a6 (a6 (a6 (a6 (a6 hbp L.size) h.size) f.size) q.size) E.size),(lzq.ext (L.t (h.t (f.t (q.t E))))),(a6 (a6 (a6 (a6 (a6 hbq L.size) h.size) f.size) q.size) E.size)⟩ G ⟨rfl,rfl,rfl,rfl,Fo⟩ ?_
 rintro⟨wr,i⟩ ⟨M,_,b_2,b_3,llp,bp,llq,bo⟩
 refine cP [(2,no H 0),(3,no o 0),(4,BY),(5,v4 i)] wr G ⟨rfl,rfl,rfl,rfl,Fo⟩ ?_
 have bi:=llp.block
 have bj:=llq.block
 refine aH (aH ?_)
 by_cases cx:i<t.n
 ·refine aJ (mv 1 G (pf H 6 G (aP G G (bA (fun _=>by kernel_rfl) b_2 G) (pu (v:= v4 ((t.n:Nat):Int)) G (aN G G G true (cG (a:=i) (b:=t.n) G G) (aA (bB G (b8 (aK (aH (bG (aH ?_))))))))))))
  obtain⟨Y,ai,ae,Z,aj,an,au,aq,bg⟩:=(llp).at (i:=i) (by omega)
  have W:=bg.zr
  have az:ln (t.L.getD i 0)≤8388608:=W.ln_le aq
  obtain⟨ah,aa,X,ag,ab,ao,ak,am,aw⟩:=(llq).at (i:=i) (by omega)
  have U:=aw.zr
  have bd:ln (t.L.getD i 0)≤8388608:=U.ln_le am
  refine cU bR 11 [] [Is (no H 6),Is (AT Bp t.n dp),Is (v4 i),Is (.pointer (some Y)),Is (J ai ae Z aj),Is (no o 6),Is (AT Bq t.n dq),Is (v4 i),Is (.pointer (some ah)),Is (J aa X ag ab),Is (By)] [[],[0],[],[1,2],[3],[],[5],[],[6,7],[8],[4,9]] [[],[0],[],[0,1,2],[0,1,2,3],[],[5],[],[5,6,7],[5,6,7,8],[0,1,2,3,4,5,6,7,8,9],[0,1,2,3,4,5,6,7,8,9,10]] rfl
   (aF G G (aC G G ?_) (aF G G (aC G G ?_) (aF G G (aC G G ?_) (aF G G (aC G G ?_) (aF G G (aC G G ?_) (aF G G (aC G G ?_) (aF G G (aC G G ?_) (aF G G (aC G G ?_) (aF G G (aC G G ?_) (aF G G (aC G G ?_) (aF G G (aC G G ?_) cE))))))))))) ?_
  ·exact fun _ _=>aB (pf H 6 G (aE G aD G))
  ·exact fun _ ch=>dk G G (aB (aP G G (bA (fun _=>by kernel_rfl) (b_2.ext ch) G) (aE G aD G)))
  ·exact fun _ _=>aB (mv 1 G (aE G aD G))
  ·exact fun _ _=>dk G G (dk G G (aB (bI G G G d9 a8.size i G Y an (aE G aD G))))
  ·exact fun _ bv=>dk G G (aB (aP G G (au _ bv _ _ a8) (aE G aD G)))
  ·exact fun _ _=>aB (pf o 6 G (aE G aD G))
  ·exact fun _ ci=>dk G G (aB (aP G G (bA (fun _=>by kernel_rfl) (b_3.ext ci) G) (aE G aD G)))
  ·exact fun _ _=>aB (mv 1 G (aE G aD G))
  ·exact fun _ _=>dk G G (dk G G (aB (bI G G G d9 a8.size i G ah ao (aE G aD G))))
  ·exact fun _ bt=>dk G G (aB (aP G G (ak _ bt _ _ a8) (aE G aD G)))
  ·intro _ ar
   have V:=M.trans ar
   refine dk G G (dk G G (aB (cl (vs:= [J ai ae Z aj,J aa X ag ab]) V (oR (W.ext ar) (W.le (aL az G)) (U.ext ar) (U.le (aL bd G))) G (by kernel_rfl) fun _ _ ba bf bc=>?_)))
   obtain rfl:=ba
   exact aE G bf rfl
  ·intro bh D
   have V:=M.trans D
   refine dk G G (dk G G (dk G G (dk G G (dk G G (dk G G (dk G G (dk G G (dk G G (dk G G (dk G G (aB (mv 1 G (aR ?_)))))))))))))
   refine cF (aK (sr (mv 1 G (pu (v:= BY) G (aA (aV G (b8 (bM (aK (aJ (mv 1 G (aT G G G ((i+1:Nat):Int) (bK (a:=i) (b:=1) G G) (mv 1 G ?_)))))))))))))
   refine aR (bX (⟨bh,i+1⟩:a7×Nat) ⟨V,(by omega),(b_2.ext D),(b_3.ext D),(llp.ext D),(a6 bp D.size),(llq.ext D),(a6 bo D.size)⟩ (show t.n-(i+1)<t.n-i by omega) G ⟨rfl,rfl,rfl,rfl,Fo⟩)
 ·refine aJ (mv 1 G (pf H 6 G (aP G G (bA (fun _=>by kernel_rfl) b_2 G) (pu (v:= v4 ((t.n:Nat):Int)) G (aN G G G false (cL (a:=i) (b:=t.n) G G) (aA (aV G (cR (cK (cN (cO (aK (aH ?_)))))))))))))
  refine aJ (mv 1 G (aA (bD (bC [By] G ⟨rfl,Fo⟩ ?_))))
  exact⟨_,rfl,rfl,M⟩
theorem oQ {t:Ans6}(hb1:b1≤w.heap.size)(hb2:b2≤w.heap.size){u:aI}(hn:t.n≤1048576)(hu:AnsR6 b1 t u w)(hv:AnsR6 b2 t v w):aQ aM 16 #[u,v] w (Gv w (Is (By))):=by
 obtain⟨s,A,n,c,s',A',n',c',_,_,n2,_,B,d,rfl,F,o,h,q,p,I,L⟩:=hu
 obtain⟨r,C,m,e,r',C',m',e',_,_,_,_,D,f,rfl,U,E,M,H,_,_,_⟩:=hv
 exact P4 F o h q hb1 U E M H hb2 p I L hn
theorem wX {k:Int}(h:n1≤1048576):(d8 k x y z u zs ys n1 n2).n≤1048576:=by
 unfold d8
 repeat' split
 all_goals first | exact bJ _ | exact h
def f4 {α:Type}(a b c d:α):Nat→α
 | 0=>a
 | 1=>b
 | 2=>c
 | _=>d
def f5 {α:Type}(a b c d e:α):Nat→α
 | 0=>a
 | 1=>b
 | 2=>c
 | 3=>d
 | _=>e
theorem RZ {ce:Nat}{ys es:List Nat}(hx:Rd w Aa xs.length ca xs)(hy:Rd w Ab ys.length cb ys)(hz:Rd w Ad ds.length cd ds)(he:Rd w Ae es.length ce es):Cs w [.bool sa,AT Aa xs.length ca,.bool sb,AT Ab ys.length cb,.bool sd,AT Ad ds.length cd,.bool se,AT Ae es.length ce] 4 (f4 sa sb sd se) (f4 xs ys ds es):=fun j hj=>by
 match j,hj with
 | 0,_=>exact⟨Aa,ca,rfl,rfl,hx⟩
 | 1,_=>exact⟨Ab,cb,rfl,rfl,hy⟩
 | 2,_=>exact⟨Ad,cd,rfl,rfl,hz⟩
 | 3,_=>exact⟨Ae,ce,rfl,rfl,he⟩
theorem EE {α:Type}(a b c d:α)(f g:Nat→α)(n:Nat):∃F,jn (4+n) (jn 4 (f4 a b c d) f) g=F∧F 0=a∧F 1=b∧F 2=c∧F 3=d∧(∀j,j<n→F (4+j)=f j)∧∀j,F (4+n+j)=g j:=by
 have h:∀j,j<4→jn (4+n) (jn 4 (f4 a b c d) f) g j=f4 a b c d j:=fun j hj=>by
  unfold jn;rw [if_pos (by omega),if_pos hj]
 refine⟨_,rfl,h 0 (by decide),h 1 (by decide),h 2 (by decide),h 3 (by decide),fun j hj=>?_,fun j=>?_⟩
 ·unfold jn;rw [if_pos (by omega),if_neg (by omega),show 4+j-4=j by omega]
 ·unfold jn;rw [if_neg (by omega),show 4+n+j-(4+n)=j by omega]
theorem AA {σ σ':Nat→Bool}{ω ω':Nat→List Nat}(h1:∀i,i<n→σ i=σ' i)(h2:∀i,i<n→ω i=ω' i):f9 n σ ω=f9 n σ' ω':=by
 unfold f9
 refine List.map_congr_left fun i hi=>?_
 have:=fN.1 hi
 rw [h1 i this,h2 i this]
theorem DP {ω ω':Nat→List Nat}(h2:∀i,i<n→(ω i).length=(ω' i).length):fJ n ω=fJ n ω':=by
 unfold fJ
 refine List.map_congr_left fun i hi=>?_
 exact h2 i (fN.1 hi)
def eZ (σ:Nat→Bool)(γ:Nat→Nat)(ω:Nat→List Nat)(j:Nat):ZC:=⟨σ j,some ⟨γ j,0,none⟩,(ω j).length,(ω j).length+80⟩
section
variable {w:a7}{k:Int}{lo lo' n1 n2 N cX:Nat}{AX:Option aG}{us:List aI}{σ:Nat→Bool}{γ:Nat→Nat}{ω0 ω:Nat→List Nat}
theorem tY {e:Nat→ZC}(heq:eZ σ γ ω0=e)(ho:Own w lo 24 2 AX (N+80) cX us)(hc:Cz us (N+80) σ γ ω0)(hf:Fam w lo' (N+80) γ ω)(hl:∀j,(ω j).length=(ω0 j).length)(hN:N=4+n1+n2)(hK:∀j,j<N+80→(ω j).length≤1048576)(h1:(fJ n1 fun j=>ω (4+j)).sum≤1048576)(h2:(fJ n2 fun j=>ω (4+n1+j)).sum≤1048576)(hn1:n1≤1048576)(hn2:n2≤1048576):Op6 w k (sg (σ 0) (nv (ω 0))) (sg (σ 1) (nv (ω 1))) (sg (σ 2) (nv (ω 2))) (sg (σ 3) (nv (ω 3))) (f9 n1 (fun j=>σ (4+j)) fun j=>ω (4+j)) (f9 n2 (fun j=>σ (4+n1+j)) fun j=>ω (4+n1+j)) n1 n2
   (.agg #[v4 k,.bool (e 0).s,.slice (e 0).A (e 0).n (e 0).c,.bool (e 1).s,.slice (e 1).A (e 1).n (e 1).c,.bool (e 2).s,.slice (e 2).A (e 2).n (e 2).c,.bool (e 3).s,.slice (e 3).A (e 3).n (e 3).c,AT (dI AX cX 4) n1 (cX-4),AT (dI AX cX (4+n1)) n2 (cX-(4+n1))]):=by
 subst heq
 have zw:=II ho hc hf hl (aS _) hK
 have zi:∀j,j<4→Zi w (eZ σ γ ω0 j).s (eZ σ γ ω0 j).A (eZ σ γ ω0 j).n (eZ σ γ ω0 j).c (sg (σ j) (nv (ω j))):=fun j hj=>by
  obtain⟨_,h,o⟩:=hf.1 j (by omega)
  have f:=rQ o G h (a6 (hK j (by omega)) (by decide))
  rw [hl j] at f
  exact⟨ω j,f,rfl⟩
 have zn:∀j,j<4→(eZ σ γ ω0 j).n≤1048576:=fun j hj=>by
  have:=hK j (by omega)
  rw [hl j] at this;exact this
 exact⟨_,_,_,_,_,_,_,_,_,_,_,_,_,_,_,_,_,_,_,_,_,_,rfl,zi 0 (by decide),zn 0 (by decide),zi 1 (by decide),zn 1 (by decide),zi 2 (by decide),zn 2 (by decide),zi 3 (by decide),zn 3 (by decide),(zw.sub (lo:=4) (n:=n1) (by omega)).zl,h1,(zw.sub (lo:=4+n1) (n:=n2) (by omega)).zl,h2,hn1,hn2⟩
end
theorem AB {lo:Nat}{e:Nat→ZC}{z:Nat→Int}(ho:Own w lb 24 2 AX N cX us)(he:Ce us N e)(hz:∀j,j<N→Zr w b (e j).s (e j).A (e j).n (e j).c (z j))(hl:lo+n≤N):Zl w (dI AX cX lo) n (cX-lo) ((dB n).map fun j=>z (lo+j)) ((dB n).map fun j=>(e (lo+j)).n):=by
 have F:=ho.rv.le
 have E:=ho.rv.max
 have H:=jE ho
 refine⟨by rw [List.length_map,List.length_range],by rw [List.length_map,List.length_range],by omega,by omega,fun i hi=>?_⟩
 have q:((dB n).map fun j=>z (lo+j)).getD i 0=z (lo+i):=by
  rw [bE,fY,List.getElem?_range hi];rfl
 have D:((dB n).map fun j=>(e (lo+j)).n).getD i 0=(e (lo+i)).n:=by
  rw [bE,fY,List.getElem?_range hi];rfl
 rw [q,D]
 obtain⟨c1,I⟩:=he (lo+i) (by omega)
 obtain⟨a,p,h⟩:=ho.rv.get ((lo+i)*2) (by omega)
 obtain⟨a',ha',o⟩:=ho.rv.get ((lo+i)*2+1) (by omega)
 rw [p] at ha';cases ha'
 rw [bE,c1] at h
 rw [bE,I] at o
 have f:¬cX=lo:=by omega
 refine⟨a.add (lo*2),(e (lo+i)).s,(e (lo+i)).A,(e (lo+i)).c,by unfold dI;rw [if_neg f,p];rfl,?_,?_,(hz (lo+i) (by omega)).zi⟩
 ·rw [kY,show lo*2+i*2=(lo+i)*2 by omega];exact h
 ·rw [kY,show lo*2+(i*2+1)=(lo+i)*2+1 by omega];exact o
theorem BE {f g:Nat→Nat}(h:∀i,i<n→f i≤g i):((dB n).map f).sum≤((dB n).map g).sum:=by
 induction n with
 | zero=>exact aS _
 | succ n ih=>
  have h1:=ih fun i hi=>h i (by omega)
  have h2:=h n (by omega)
  simp only [List.range_succ,List.map_append,List.sum_append,kH,lH,List.sum_cons,List.sum_nil]
  omega
theorem MF {k:Int}{e:Nat→ZC}{z:Nat→Int}{ω:Nat→List Nat}(ho:Own w lb 24 2 AX N cX us)(he:Ce us N e)(hz:∀j,j<N→Zr w b (e j).s (e j).A (e j).n (e j).c (z j))(hle:∀j,j<N→ln (z j)≤(ω j).length)(hN:N=4+n1+n2)(hK:∀j,j<N→(ω j).length≤1048576)(h1:(fJ n1 fun j=>ω (4+j)).sum≤1048576)(h2:(fJ n2 fun j=>ω (4+n1+j)).sum≤1048576)(hn1:n1≤1048576)(hn2:n2≤1048576):Op6 w k (z 0) (z 1) (z 2) (z 3) ((dB n1).map fun j=>z (4+j)) ((dB n2).map fun j=>z (4+n1+j)) n1 n2
   (.agg #[v4 k,.bool (e 0).s,.slice (e 0).A (e 0).n (e 0).c,.bool (e 1).s,.slice (e 1).A (e 1).n (e 1).c,.bool (e 2).s,.slice (e 2).A (e 2).n (e 2).c,.bool (e 3).s,.slice (e 3).A (e 3).n (e 3).c,AT (dI AX cX 4) n1 (cX-4),AT (dI AX cX (4+n1)) n2 (cX-(4+n1))]):=by
 have en:∀j,j<N→(e j).n≤(ω j).length:=fun j hj=>by
  rw [(hz j hj).len];exact hle j hj
 have zn:∀j,j<4→(e j).n≤1048576:=fun j hj=>a6 (en j (by omega)) (hK j (by omega))
 exact⟨_,_,_,_,_,_,_,_,_,_,_,_,_,_,_,_,_,_,_,_,_,_,rfl,(hz 0 (by omega)).zi,zn 0 (by decide),(hz 1 (by omega)).zi,zn 1 (by decide),(hz 2 (by omega)).zi,zn 2 (by decide),(hz 3 (by omega)).zi,zn 3 (by decide),
  AB ho he hz (by omega),a6 (BE fun i hi=>en (4+i) (by omega)) h1,AB ho he hz (by omega),a6 (BE fun i hi=>en (4+n1+i) (by omega)) h2,hn1,hn2⟩
structure AR6 where
 s:Bool
 A:Option aG
 n:Nat
 c:Nat
 s':Bool
 A':Option aG
 n':Nat
 c':Nat
 s2:Bool
 A2:Option aG
 n2:Nat
 c2:Nat
 B:Option aG
 m:Nat
 d:Nat
 E:Int
def AR6.cells (r:AR6):List aI:= [.bool r.s,AT r.A r.n r.c,.bool r.s',AT r.A' r.n' r.c',.bool r.s2,AT r.A2 r.n2 r.c2,AT r.B r.m r.d,v4 r.E]
def AR6.ls (r:AR6)(xs:List Lst):List Lst:= [⟨r.A,r.n,r.c⟩]++ [⟨r.A',r.n',r.c'⟩]++ [⟨r.A2,r.n2,r.c2⟩]++xs
def AnsI (b e:Nat)(t:Ans6)(r:AR6)(w:a7):Prop:=
 e≤w.heap.size∧r.m=t.n∧r.E=t.E∧Zr w b r.s r.A r.n r.c t.X∧Zr w b r.s' r.A' r.n' r.c' t.Y∧Zr w b r.s2 r.A2 r.n2 r.c2 t.Z∧Ld 8388608 b (fun g=>g<e∧∀p,r.A=some p∨r.A'=some p∨r.A2=some p→p.block≠g) w b r.B r.m r.d t.L∧ln t.X≤1099511620000∧ln t.Y≤1099511620000∧ln t.Z≤1099511620000∧qP r.A r.A'∧qP r.A r.A2∧qP r.A' r.A2∧
  (∀p,r.A=some p→p.block<e)∧(∀p,r.A'=some p→p.block<e)∧(∀p,r.A2=some p→p.block<e)∧∀p,r.B=some p→p.block<e
section
variable {b e lb:Nat}{t:Ans6}{v:aI}{r:AR6}{w w':a7}
theorem AnsR6.cells (h:AnsR6 b t v w):∃r:AR6,v= .agg #[.bool r.s,AT r.A r.n r.c,.bool r.s',AT r.A' r.n' r.c',.bool r.s2,AT r.A2 r.n2 r.c2,AT r.B r.m r.d,v4 r.E]∧AnsR6 b t (.agg #[.bool r.s,AT r.A r.n r.c,.bool r.s',AT r.A' r.n' r.c',.bool r.s2,AT r.A2 r.n2 r.c2,AT r.B r.m r.d,v4 r.E]) w:=by
 have o:=h
 obtain⟨s,A,n,c,s',A',n',c',p,f,n2,q,B,d,rfl,_⟩:=h
 exact⟨⟨s,A,n,c,s',A',n',c',p,f,n2,q,B,t.n,d,t.E⟩,rfl,o⟩
theorem AnsA6.i (h:AnsA6 b t v w):∃r:AR6,v= .agg #[.bool r.s,AT r.A r.n r.c,.bool r.s',AT r.A' r.n' r.c',.bool r.s2,AT r.A2 r.n2 r.c2,AT r.B r.m r.d,v4 r.E]∧AnsI b w.heap.size t r w:=by
 obtain⟨s,A,n,c,s',A',n',c',V,I,n2,X,B,d,rfl,q,F,E,H,U,L,M,W,Y,o⟩:=h
 exact⟨⟨s,A,n,c,s',A',n',c',V,I,n2,X,B,t.n,d,t.E⟩,rfl,aS _,rfl,rfl,q,F,E,H.lt.imp (fun g D=>⟨D.2.2,D.1⟩),U,L,M,W,Y,o,fun p f=>(q.own.block p f).2,fun p f=>(F.own.block p f).2,fun p f=>(E.own.block p f).2,fun p f=>(H.block p f).2⟩
def t6 (b e:Nat)(w w':a7):Prop:=w.heap.size≤w'.heap.size∧∀k,b≤k→k<e→w'.heap[k]?=w.heap[k]?
theorem Own.agr {s:Nat}(h:Own w b T s A n cap vs)(a:t6 b e w w')(hA:∀p,A=some p→p.block<e):Own w' b T s A n cap vs:=by
 rcases h with h | ⟨g,cs,f,hb,o,q⟩
 ·exact bS h
 ·exact bW ⟨g,cs,f,hb,(a.2 g hb (hA _ f)).trans o,q⟩
theorem Zr.agr (h:Zr w b s A n c x)(a:t6 b e w w')(hA:∀p,A=some p→p.block<e):Zr w' b s A n c x:=⟨h.sgn,h.len,h.own.agr a hA⟩
theorem AnsI.agr (h:AnsI b e t r w)(a:t6 b e w w'):AnsI b e t r w':=by
 obtain⟨X,hm,Y,H,h2,L,h4,h5,M,U,h8,h9,o,E,F,D,q⟩:=h
 obtain⟨es,I,W,V,f,g5⟩:=h4
 exact⟨a6 X a.1,hm,Y,H.agr a E,h2.agr a F,L.agr a D,⟨es,I.agr a q,W,V,fun i hi=>⟨(f i hi).1,(f i hi).2.1.agr a (fun p Z=>((f i hi).2.2 p Z).1),(f i hi).2.2⟩,g5⟩,h5,M,U,h8,h9,o,E,F,D,q⟩
theorem AnsI.ext (h:AnsI b e t r w)(x:Ext w w'):AnsI b e t r w':=h.agr ⟨x.size,fun k _ f=>x.below.block k (d4 f h.1)⟩
theorem AnsI.upT {lo:Nat}(h:AnsI b e t r w)(u:UpT lo hi w w')(hle:hi≤b):AnsI b e t r w':=h.agr ⟨u.size,fun k hb f=>u.out k (d4 f h.1) (bW (a6 hle hb))⟩
theorem AnsI.toR (h:AnsI b e t r w):AnsR6 b t (.agg #[.bool r.s,AT r.A r.n r.c,.bool r.s',AT r.A' r.n' r.c',.bool r.s2,AT r.A2 r.n2 r.c2,AT r.B r.m r.d,v4 r.E]) w:=by
 obtain⟨_,hm,p,o,D,q,f,E,F,H,_⟩:=h
 rw [hm] at f⊢
 rw [p]
 exact⟨_,_,_,_,_,_,_,_,_,_,_,_,_,_,rfl,o,D,q,f.lz,a6 E (by decide),a6 F (by decide),a6 H (by decide)⟩
theorem AnsI.be (h:AnsI b e t r w):e≤w.heap.size:=h.1
theorem IY {i:Nat}(hi:i<es.length):(gE es)[i*2+1]?=some (.slice (es.getD i ZC.zero).A (es.getD i ZC.zero).n (es.getD i ZC.zero).c):=by
 induction es generalizing i with
 | nil=>exact absurd hi (Nat.not_lt_zero _)
 | cons a l ih=>
  cases i with
  | zero=>rfl
  | succ i=>
   have:=ih (i:=i) (by simpa using hi)
   rw [show (i+1)*2+1=(i*2+1)+1+1 by omega]
   exact this
theorem AnsI.book (h:AnsI b e t r w)(hlb:lb≤b):∃(xs:List Lst) (us:List aI),Sg w lb (fun g=>b≤g∧g<e) (r.ls xs)∧Own w lb 24 2 r.B r.m r.d us∧xs.length=r.m∧(∀i,i<r.m→us[i*2+1]?=some (xs.getD i Lst.z).v)∧(∀p,r.B=some p→b≤p.block∧p.block<e)∧∀x,x∈r.ls xs→x.n≤1099511620000:=by
 obtain⟨_,hm,_,U,M,H,h4,Z,h6,h7,h8,h9,I,k1,k2,k3,k4⟩:=h
 obtain⟨es,X,Y,_,F,g5⟩:=h4
 have gl:∀i,i<r.m→(es.map fun x:ZC=>(⟨x.A,x.n,x.c⟩:Lst)).getD i Lst.z=⟨(es.getD i ZC.zero).A,(es.getD i ZC.zero).n,(es.getD i ZC.zero).c⟩:=fun i hi=>by
  simp only [bE,fY,cA (show i<es.length by omega)];rfl
 have o:(es.map fun x:ZC=>(⟨x.A,x.n,x.c⟩:Lst)).length=r.m:=by rw [List.length_map,Y]
 have blk:∀{s:Bool}{A:Option aG}{n c:Nat}{x:Int},Zr w b s A n c x→∀p,A=some p→b≤p.block:=fun z p f=>(z.own.block p f).1
 refine⟨es.map fun x:ZC=>(⟨x.A,x.n,x.c⟩:Lst),gE es,?_,X.mono hlb,o,fun i hi=>?_,fun p f=>⟨(X.block p f).1,k4 p f⟩,fun x hx=>?_⟩
 ·have s1:Sg w lb (fun g=>∃p,r.A=some p∧p.block=g) [⟨r.A,r.n,r.c⟩]:=Sg.one (U.own.mono hlb) (fun p f=>⟨p,f,rfl⟩)
  have s2:Sg w lb (fun g=>∃p,r.A'=some p∧p.block=g) [⟨r.A',r.n',r.c'⟩]:=Sg.one (M.own.mono hlb) (fun p f=>⟨p,f,rfl⟩)
  have s3:Sg w lb (fun g=>∃p,r.A2=some p∧p.block=g) [⟨r.A2,r.n2,r.c2⟩]:=Sg.one (H.own.mono hlb) (fun p f=>⟨p,f,rfl⟩)
  have s4:Sg w lb (fun g=>b≤g∧g<e∧∀p,r.A=some p∨r.A'=some p∨r.A2=some p→p.block≠g) (es.map fun x:ZC=>(⟨x.A,x.n,x.c⟩:Lst)):=by
   refine⟨⟨fun i j hi hj L p q f D=>?_,fun i hi=>?_⟩,fun i hi p f=>?_⟩
   ·rw [o] at hi hj
    rw [gl i hi] at f
    rw [gl j hj] at D
    exact g5 i j hi hj L p q f D
   ·rw [o] at hi
    rw [gl i hi]
    exact⟨_,(F i hi).2.1.own.mono hlb,fun h=>absurd h (Nat.not_lt_zero _),fun _=>rfl⟩
   ·rw [o] at hi
    rw [gl i hi] at f
    exact⟨blk (F i hi).2.1 p f,(F i hi).2.2 p f⟩
  have V:=s1.app s2 (by rintro g ⟨p,f,rfl⟩ ⟨q,D,e'⟩;exact h8 p q f D e'.symm)
  have E:=V.app s3 (by
   rintro g (⟨p,f,rfl⟩ | ⟨p,f,rfl⟩) ⟨q,D,e'⟩
   ·exact h9 p q f D e'.symm
   ·exact I p q f D e'.symm)
  refine (E.app s4 ?_).imp ?_
  ·rintro g ((⟨p,f,rfl⟩ | ⟨p,f,rfl⟩) | ⟨p,f,rfl⟩) ⟨_,_,D⟩
   ·exact D p (bS f) rfl
   ·exact D p (bW (bS f)) rfl
   ·exact D p (bW (bW f)) rfl
  ·rintro g (((⟨p,f,rfl⟩ | ⟨p,f,rfl⟩) | ⟨p,f,rfl⟩) | W)
   ·exact⟨blk U p f,k1 p f⟩
   ·exact⟨blk M p f,k2 p f⟩
   ·exact⟨blk H p f,k3 p f⟩
   ·exact⟨W.1,W.2.1⟩
 ·rw [gl i hi];exact IY (by omega)
 ·unfold AR6.ls at hx
  simp only [pH,List.mem_cons,List.not_mem_nil,or_false] at hx
  rcases hx with ((rfl | rfl) | rfl) | hx
  ·exact a6 (Nat.le_of_eq U.len) Z
  ·exact a6 (Nat.le_of_eq M.len) h6
  ·exact a6 (Nat.le_of_eq H.len) h7
  ·obtain⟨z,hz,rfl⟩:=m6.1 hx
   obtain⟨i,hi,rfl⟩:=List.getElem_of_mem hz
   have:=(F i (by omega)).1
   rw [bE,cA hi] at this
   exact a6 this (by decide)
end
def f8 (LS:Nat→List Lst):Nat→List Lst
 | 0=> []
 | i+1=>f8 LS i++LS i
section
variable {w w':a7}{lb:Nat}
theorem H5 {LS:Nat→List Lst}{M:Nat}:∀{n:Nat},(∀i,i<n→(LS i).length≤M)→(f8 LS n).length≤n*M
 | 0,_=>by simp [f8]
 | n+1,h=>by
  have h1:=H5 (n:=n) fun i hi=>h i (by omega)
  have f:=h n (by omega)
  rw [f8,fH,Nat.succ_mul];omega
theorem H6 {LS:Nat→List Lst}{Q:Lst→Prop}:∀{n:Nat},(∀i,i<n→∀x,x∈LS i→Q x)→∀x,x∈f8 LS n→Q x
 | 0,_,x,hx=>by cases hx
 | n+1,h,x,hx=>by
  rcases pH.1 hx with hx | hx
  ·exact H6 (n:=n) (fun i hi=>h i (by omega)) x hx
  ·exact h n (by omega) x hx
theorem Sg.nil (P:Nat→Prop):Sg w lb P []:=⟨⟨fun a _ f=>absurd f (Nat.not_lt_zero _),fun a f=>absurd f (Nat.not_lt_zero _)⟩,fun a f=>absurd f (Nat.not_lt_zero _)⟩
theorem Sg.acc {LS:Nat→List Lst}{bs es:Nat→Nat}:∀{n:Nat},(∀i,i<n→Sg w lb (fun g=>bs i≤g∧g<es i) (LS i))→(∀i j,i<j→j<n→es i≤bs j)→Sg w lb (fun g=>∃i,i<n∧bs i≤g∧g<es i) (f8 LS n)
 | 0,_,_=>Sg.nil _
 | n+1,h,hd=>by
  refine ((Sg.acc (n:=n) (fun i hi=>h i (by omega)) (fun i j hij hj=>hd i j hij (by omega))).app (h n (by omega)) ?_).imp ?_
  ·rintro g ⟨i,hi,_,h2⟩ ⟨h3,_⟩
   have:=hd i n hi (by omega)
   omega
  ·rintro g (⟨i,hi,f⟩ | f)
   ·exact⟨i,by omega,f⟩
   ·exact⟨n,by omega,f⟩
theorem T6 {MS:Nat→Lst}{us:Nat→List aI}{bs es:Nat→Nat}(ho:∀i,i<n→Own w lb 24 2 (MS i).A (MS i).n (MS i).c (us i))(hr:∀i,i<n→∀p,(MS i).A=some p→bs i≤p.block∧p.block<es i)(hd:∀i j,i<j→j<n→es i≤bs j):Ai1 w lb ((dB n).map MS) 0 0:=by
 have f:((dB n).map MS).length=n:=by rw [List.length_map,List.length_range]
 have gl:∀i,i<n→((dB n).map MS).getD i Lst.z=MS i:=fun i hi=>by
  rw [bE,fY,List.getElem?_range hi];rfl
 refine⟨fun a b o hb D p q F E=>?_,fun a o=>?_⟩
 ·rw [f] at o hb
  rw [gl a o] at F
  rw [gl b hb] at E
  have H:=hr a o p F
  have I:=hr b hb q E
  rcases Nat.lt_or_gt_of_ne D with h | h
  ·have:=hd a b h hb;omega
  ·have:=hd b a h o;omega
 ·rw [f] at o
  rw [gl a o]
  exact⟨us a,ho a o,fun h=>absurd h (Nat.not_lt_zero _),fun _=>Mk.zero _ _ _⟩
def kN (n:Nat)(γ:Nat→Nat)(ω:Nat→List Nat):List Lst:=(dB n).map fun j=>⟨some ⟨γ j,0,none⟩,(ω j).length+80,(ω j).length+80⟩
theorem rW (n:Nat)(γ:Nat→Nat)(ω:Nat→List Nat):(kN n γ ω).length=n:=by unfold kN;rw [List.length_map,List.length_range]
theorem rX {γ:Nat→Nat}{ω:Nat→List Nat}(hj:j<n):(kN n γ ω).getD j Lst.z=⟨some ⟨γ j,0,none⟩,(ω j).length+80,(ω j).length+80⟩:=by
 unfold kN;rw [bE,fY,List.getElem?_range hj];rfl
theorem Sg.famR {lo:Nat}{P:Nat→Prop}{γ:Nat→Nat}{ω ω':Nat→List Nat}(h:Fam w lo n γ ω')(hl:∀j,(ω' j).length=(ω j).length)(hlb:lb≤lo)(hK:∀j,j<n→(ω j).length≤1048576)(hr:∀j,j<n→P (γ j)):Sg w lb P (kN n γ ω):=by
 refine⟨⟨fun a b f hb D p q o E e=>?_,fun a f=>?_⟩,fun a f p o=>?_⟩
 ·rw [rW] at f hb
  rw [rX f] at o
  rw [rX hb] at E
  cases o;cases E
  exact D (h.inj f hb e)
 ·rw [rW] at f
  rw [rX f]
  obtain⟨H,_,F⟩:=h.1 a f
  rw [hl] at F
  have I:=hK a f
  exact⟨ω' a++fZ (ω a).length,Own.mk_ (a6 hlb H) F (aS _) (by rw [eB];show (ω a).length+80≤_;omega) (by rw [List.length_map,fH,oJ,hl,eG]) (by rw [eG,List.take_of_length_le (by rw [List.length_map,fH,oJ,hl];exact aS _)]),fun h=>absurd h (Nat.not_lt_zero _),fun _=>rfl⟩
 ·rw [rW] at f
  rw [rX f] at o
  cases o
  exact hr a f
theorem NR {γ:Nat→Nat}{ω:Nat→List Nat}(h:∀j,j<n→(ω j).length+80≤M):∀x,x∈kN n γ ω→x.n≤M:=fun x hx=>by
 unfold kN at hx
 obtain⟨j,hj,rfl⟩:=m6.1 hx
 exact h j (fN.1 hj)
end
theorem SZ {r0 r1 r2 r3 r4:AR6}(h:Bk w g 45 (r0.cells++r1.cells++r2.cells++r3.cells++r4.cells)){i:Nat}(hi:i<5):∃p,(some (⟨g,0,none⟩:aG)).map (·.add (i*8))=some p∧∀w',Ext w w'→(loadVar 45 p).run aM w'= .ok (.agg (f5 r0 r1 r2 r3 r4 i).cells.toArray) w':=by
 refine⟨_,rfl,fun w' x=>q8 bU _ G fun j hj=>?_⟩
 have key:∀q,q<40→w'.cell? ((⟨g,0,none⟩:aG).add q)=some ((r0.cells++r1.cells++r2.cells++r3.cells++r4.cells).getD q undef):=fun q o=>by
  rw [fL,eX];exact (h.ext x).cell o
 rw [kY]
 have f:j<8:=hj
 match i,hi with
 | 0,_=>exact (key (0*8+j) (by omega)).trans (by match j,f with | 0,_=>rfl | 1,_=>rfl | 2,_=>rfl | 3,_=>rfl | 4,_=>rfl | 5,_=>rfl | 6,_=>rfl | 7,_=>rfl)
 | 1,_=>exact (key (1*8+j) (by omega)).trans (by match j,f with | 0,_=>rfl | 1,_=>rfl | 2,_=>rfl | 3,_=>rfl | 4,_=>rfl | 5,_=>rfl | 6,_=>rfl | 7,_=>rfl)
 | 2,_=>exact (key (2*8+j) (by omega)).trans (by match j,f with | 0,_=>rfl | 1,_=>rfl | 2,_=>rfl | 3,_=>rfl | 4,_=>rfl | 5,_=>rfl | 6,_=>rfl | 7,_=>rfl)
 | 3,_=>exact (key (3*8+j) (by omega)).trans (by match j,f with | 0,_=>rfl | 1,_=>rfl | 2,_=>rfl | 3,_=>rfl | 4,_=>rfl | 5,_=>rfl | 6,_=>rfl | 7,_=>rfl)
 | 4,_=>exact (key (4*8+j) (by omega)).trans (by match j,f with | 0,_=>rfl | 1,_=>rfl | 2,_=>rfl | 3,_=>rfl | 4,_=>rfl | 5,_=>rfl | 6,_=>rfl | 7,_=>rfl)
theorem mI {p:Nat→Prop}(h0:p 0)(h1:p 1)(h2:p 2)(h3:p 3)(h4:p 4):∀i,i<5→p i
 | 0,_=>h0
 | 1,_=>h1
 | 2,_=>h2
 | 3,_=>h3
 | 4,_=>h4
section
variable {b:Nat}{t S:Ans6}{v:aI}{r:AR6}{w w':a7}
theorem Lz.agr (h:Lz none K b w b A n cap zs)(a:t6 b e w w')(he:w.heap.size≤e):Lz none K b w' b A n cap zs:=by
 have f:=h.block
 obtain⟨es,D,F,E,q⟩:=h
 refine⟨es,D.agr a (fun p o=>d4 (f p o).2 he),F,E,fun i hi=>⟨(q i hi).1,?_⟩⟩
 rcases (q i hi).2 with z | ⟨m,hm,_⟩
 ·exact bS (z.agr a fun p o=>d4 (z.own.block p o).2 he)
 ·cases hm
theorem AnsR6.agr (h:AnsR6 b t v w)(a:t6 b e w w')(he:w.heap.size≤e):AnsR6 b t v w':=by
 obtain⟨s,A,n,c,s',A',n',c',_,_,n2,_,B,d,rfl,o,D,q,F,E⟩:=h
 exact⟨_,_,_,_,_,_,_,_,_,_,_,_,_,_,rfl,o.agr a (fun p f=>d4 (o.own.block p f).2 he),D.agr a (fun p f=>d4 (D.own.block p f).2 he),q.agr a (fun p f=>d4 (q.own.block p f).2 he),F.agr a he,E⟩
theorem AnsR6.ext (h:AnsR6 b t v w)(x:Ext w w'):AnsR6 b t v w':=h.agr (e:=w.heap.size) ⟨x.size,fun k _ f=>x.below.block k f⟩ (aS _)
theorem AnsR6.upT {lo:Nat}(h:AnsR6 b t v w)(u:UpT lo hi w w')(hle:hi≤b):AnsR6 b t v w':=h.agr (e:=w.heap.size) ⟨u.size,fun k hb f=>u.out k f (bW (a6 hle hb))⟩ (aS _)
section
variable {k x y z u:Int}{zs ys:List Int}{n1 n2:Nat}
theorem yE (hb:b≤w.heap.size)(h:Op6 w k x y z u zs ys n1 n2 v)(hS:d8 k x y z u zs ys n1 n2=S):aQ aM 13 #[v] w (Gv w (AnsR6 b S)):=hS▸P2 hb h
theorem sF (hb:b≤w.heap.size)(h:Op6 w k x y z u zs ys n1 n2 v)(hS:d8 k x y z u zs ys n1 n2=S):aQ aM 14 #[v] w (Gv w (AnsA6 b S)):=hS▸PX hb h
end
end
theorem O3 {α:Type}{P:α→Prop}{F:Nat→α}{a b c d:α}{f g:Nat→α}(h0:F 0=a)(h1:F 1=b)(h2:F 2=c)(h3:F 3=d)(h4:∀j,j<n→F (4+j)=f j)(h5:∀j,F (4+n+j)=g j)(p0:P a)(p1:P b)(p2:P c)(p3:P d)(p4:∀j,j<n→P (f j))(p5:∀j,j<m→P (g j)):∀j,j<4+n+m→P (F j):=fun j hj=>by
 by_cases e:j<4
 ·match j,e with
  | 0,_=>rw [h0];exact p0
  | 1,_=>rw [h1];exact p1
  | 2,_=>rw [h2];exact p2
  | 3,_=>rw [h3];exact p3
 ·by_cases h:j<4+n
  ·have:=h4 (j-4) (by omega)
   rw [show 4+(j-4)=j by omega] at this
   rw [this];exact p4 _ (by omega)
  ·have:=h5 (j-(4+n))
   rw [show 4+n+(j-(4+n))=j by omega] at this
   rw [this];exact p5 _ (by omega)
theorem AD {lo:Nat}{σ:Nat→Bool}{γ:Nat→Nat}{ω0 ω:Nat→List Nat}{e:Nat→ZC}(heq:eZ σ γ ω0=e)(hf:Fam w lo M γ ω)(hl:∀j,(ω j).length=(ω0 j).length)(hj:j<M)(hK:(ω j).length≤1048576)(hz:z=sg (σ j) (nv (ω j))):Zi w (e j).s (e j).A (e j).n (e j).c z∧(e j).n≤1048576:=by
 subst heq hz
 obtain⟨_,o,h⟩:=hf.1 j hj
 have f:=rQ h G o (a6 hK (by decide))
 rw [hl j] at f hK
 exact⟨⟨ω j,f,rfl⟩,hK⟩
theorem IK {nb:Nat}(h:Bk w g 24 [.bool sa,AT Aa na ca,.bool sb,AT Ab nb cb])(hx:Zi w sa Aa na ca x)(hy:Zi w sb Ab nb cb y):Zl w (some ⟨g,0,none⟩) 2 2 [x,y] [na,nb]:=by
 refine⟨rfl,rfl,aS _,by decide,fun i hi=>?_⟩
 match i,hi with
 | 0,_=>
  refine⟨⟨g,0,none⟩,sa,Aa,ca,rfl,?_,?_,hx⟩
  ·rw [fL];exact h.cell (i:=0) (Nat.le_of_ble_eq_true G)
  ·rw [fL];exact h.cell (i:=1) (Nat.le_of_ble_eq_true G)
 | 1,_=>
  refine⟨⟨g,0,none⟩,sb,Ab,cb,rfl,?_,?_,hy⟩
  ·rw [fL];exact h.cell (i:=2) (Nat.le_of_ble_eq_true G)
  ·rw [fL];exact h.cell (i:=3) (Nat.le_of_ble_eq_true G)
theorem JM (h1:a≤1)(h2:b≤1): [a,b].sum≤1048576:=by
 simp only [List.sum_cons,List.sum_nil];omega
def LO6 (b:Nat)(x y:Int)(v:aI)(w:a7):Prop:=∃g s A n c s' A' n' c',v= AT (some ⟨g,0,none⟩) 2 2∧Bk w g 24 [.bool s,AT A n c,.bool s',AT A' n' c']∧Zr w b s A n c x∧Zr w b s' A' n' c' y
def OpO (b:Nat)(k x y z u a1 a2 d1 d2:Int)(v:aI)(w:a7):Prop:=∃sa Aa na ca sb Ab nb cb sd Ad nd cd se Ae ne ce g1 g2,v= .agg #[v4 k,.bool sa,AT Aa na ca,.bool sb,AT Ab nb cb,.bool sd,AT Ad nd cd,.bool se,AT Ae ne ce,AT (some ⟨g1,0,none⟩) 2 2,AT (some ⟨g2,0,none⟩) 2 2]∧
 Zr w b sa Aa na ca x∧Zr w b sb Ab nb cb y∧Zr w b sd Ad nd cd z∧Zr w b se Ae ne ce u∧LO6 b a1 a2 (AT (some ⟨g1,0,none⟩) 2 2) w∧LO6 b d1 d2 (AT (some ⟨g2,0,none⟩) 2 2) w
section
variable {b:Nat}{k x y z u a1 a2 d1 d2:Int}{v:aI}{w w':a7}
theorem LO6.ext (h:LO6 b x y v w)(e:Ext w w'):LO6 b x y v w':=by
 obtain⟨g,s,A,n,c,s',A',n',c',f,p,o,q⟩:=h
 exact⟨g,s,A,n,c,s',A',n',c',f,p.ext e,o.ext e,q.ext e⟩
theorem LO6.updT (h:LO6 b x y v w)(hb:Bk w g 30 us)(e:Upd g w w'):LO6 b x y v w':=by
 obtain⟨q,s,A,n,c,s',A',n',c',f,p,o,D⟩:=h
 exact⟨q,s,A,n,c,s',A',n',c',f,p.updTT hb (by decide) e,o.updT hb e,D.updT hb e⟩
theorem OpO.ext (h:OpO b k x y z u a1 a2 d1 d2 v w)(e:Ext w w'):OpO b k x y z u a1 a2 d1 d2 v w':=by
 obtain⟨sa,Aa,na,ca,sb,Ab,nb,cb,sd,Ad,nd,cd,se,Ae,ne,ce,_,_,rfl,f,q,o,E,D,p⟩:=h
 exact⟨_,_,_,_,_,_,_,_,_,_,_,_,_,_,_,_,_,_,rfl,f.ext e,q.ext e,o.ext e,E.ext e,D.ext e,p.ext e⟩
theorem OpO.updT (h:OpO b k x y z u a1 a2 d1 d2 v w)(hb:Bk w g 30 us)(e:Upd g w w'):OpO b k x y z u a1 a2 d1 d2 v w':=by
 obtain⟨sa,Aa,na,ca,sb,Ab,nb,cb,sd,Ad,nd,cd,se,Ae,ne,ce,_,_,rfl,f,q,o,E,D,p⟩:=h
 exact⟨_,_,_,_,_,_,_,_,_,_,_,_,_,_,_,_,_,_,rfl,f.updT hb e,q.updT hb e,o.updT hb e,E.updT hb e,D.updT hb e,p.updT hb e⟩
theorem OpO.cells (h:OpO b k x y z u a1 a2 d1 d2 v w):∃sa Aa na ca sb Ab nb cb sd Ad nd cd se Ae ne ce g1 g2,v= .agg #[v4 k,.bool sa,AT Aa na ca,.bool sb,AT Ab nb cb,.bool sd,AT Ad nd cd,.bool se,AT Ae ne ce,AT (some ⟨g1,0,none⟩) 2 2,AT (some ⟨g2,0,none⟩) 2 2]:=by
 obtain⟨sa,Aa,na,ca,sb,Ab,nb,cb,sd,Ad,nd,cd,se,Ae,ne,ce,g1,g2,e,_⟩:=h
 exact⟨_,_,_,_,_,_,_,_,_,_,_,_,_,_,_,_,_,_,e⟩
theorem LO6.zl (h:LO6 b x y (AT (some ⟨g,0,none⟩) 2 2) w)(lx:ln x≤1)(ly:ln y≤1):∃ms,Zl w (some ⟨g,0,none⟩) 2 2 [x,y] ms∧ms.sum≤1048576:=by
 obtain⟨q,s,A,n,c,s',A',n',c',p,D,f,o⟩:=h
 cases p
 exact⟨_,IK D f.zi o.zi,JM (f.le lx) (o.le ly)⟩
theorem OpO.op6 (h:OpO b k x y z u a1 a2 d1 d2 v w)(l1:ln x≤1)(l2:ln y≤1)(l3:ln z≤1)(l4:ln u≤1)(l5:ln a1≤1)(l6:ln a2≤1)(l7:ln d1≤1)(l8:ln d2≤1):Op6 w k x y z u [a1,a2] [d1,d2] 2 2 v:=by
 obtain⟨sa,Aa,na,ca,sb,Ab,nb,cb,sd,Ad,nd,cd,se,Ae,ne,ce,_,_,rfl,f,p,o,q,I,E⟩:=h
 obtain⟨ms,H,L⟩:=I.zl l5 l6
 obtain⟨_,F,D⟩:=E.zl l7 l8
 exact⟨_,_,_,_,_,_,_,_,_,_,_,_,_,_,_,_,_,_,_,_,_,_,rfl,f.zi,a6 (f.le l1) (by decide),p.zi,a6 (p.le l2) (by decide),o.zi,a6 (o.le l3) (by decide),q.zi,a6 (q.le l4) (by decide),H,L,F,D,by decide,by decide⟩
end
theorem TC (l xs:List Lst)(a b c:Lst):(((l++ [a])++ [b])++ [c])++xs=l++([a]++ [b]++ [c]++xs):=by simp only [List.append_assoc]
theorem AR6.ls_len (r:AR6)(xs:List Lst):(r.ls xs).length=3+xs.length:=by
 unfold AR6.ls;simp only [fH,List.length_cons,List.length_nil]
theorem LZ (MS:Nat→Lst)(i:Nat):(dB (i+1)).map MS=(dB i).map MS++ [MS i]:=by rw [List.range_succ,List.map_append];rfl
theorem zZ {lo:Nat}{σ:Nat→Bool}{ω:Nat→List Nat}{z:Nat→Int}(hz:∀j,z j=sg (σ j) (nv (ω j))):f9 n (fun j=>σ (lo+j)) (fun j=>ω (lo+j))=(dB n).map fun j=>z (lo+j):=by
 unfold f9
 exact List.map_congr_left fun i _=>(hz (lo+i)).symm
theorem KN {k:Int}{ys es:List Nat}{σ τ ζ:Nat→Bool}{ω υ Ω:Nat→List Nat}(a0:ζ 0=sa)(a1:ζ 1=sb)(a2:ζ 2=sd)(a3:ζ 3=se)(a4:∀j,j<n1→ζ (4+j)=σ j)(a5:∀j,ζ (4+n1+j)=τ j)(b0:Ω 0=xs)(b1:Ω 1=ys)(b2:Ω 2=ds)(b3:Ω 3=es)(b4:∀j,j<n1→Ω (4+j)=ω j)(b5:∀j,Ω (4+n1+j)=υ j):d8 k (sg (fI (4+n1+n2) ζ 0) (nv (dD (4+n1+n2) Ω 0))) (sg (fI (4+n1+n2) ζ 1) (nv (dD (4+n1+n2) Ω 1))) (sg (fI (4+n1+n2) ζ 2) (nv (dD (4+n1+n2) Ω 2))) (sg (fI (4+n1+n2) ζ 3) (nv (dD (4+n1+n2) Ω 3))) (f9 n1 (fun j=>fI (4+n1+n2) ζ (4+j)) fun j=>dD (4+n1+n2) Ω (4+j)) (f9 n2 (fun j=>fI (4+n1+n2) ζ (4+n1+j)) fun j=>dD (4+n1+n2) Ω (4+n1+j)) n1 n2=
   d8 k (sg sa (nv xs)) (sg sb (nv ys)) (sg sd (nv ds)) (sg se (nv es)) (f9 n1 σ ω) (f9 n2 τ υ) n1 n2:=by
 have q:f9 n1 (fun j=>fI (4+n1+n2) ζ (4+j)) (fun j=>dD (4+n1+n2) Ω (4+j))=f9 n1 σ ω:=AA (fun i hi=>(nD).trans (a4 i hi)) (fun i hi=>(j0).trans (b4 i hi))
 have f:f9 n2 (fun j=>fI (4+n1+n2) ζ (4+n1+j)) (fun j=>dD (4+n1+n2) Ω (4+n1+j))=f9 n2 τ υ:=AA (fun i hi=>(nD).trans (a5 i)) (fun i hi=>(j0).trans (b5 i))
 have h:fI (4+n1+n2) ζ 0=sa:=(nD).trans a0
 have p:fI (4+n1+n2) ζ 1=sb:=(nD).trans a1
 have H:fI (4+n1+n2) ζ 2=sd:=(nD).trans a2
 have F:fI (4+n1+n2) ζ 3=se:=(nD).trans a3
 have I:dD (4+n1+n2) Ω 0=xs:=(j0).trans b0
 have E:dD (4+n1+n2) Ω 1=ys:=(j0).trans b1
 have o:dD (4+n1+n2) Ω 2=ds:=(j0).trans b2
 have D:dD (4+n1+n2) Ω 3=es:=(j0).trans b3
 rw [q,f,h,p,H,F,I,E,o,D]
theorem BI {lo:Nat}{ω Ω:Nat→List Nat}(h:∀j,j<n→Ω (lo+j)=ω j)(hs:(fJ n ω).sum≤M):(fJ n fun j=>Ω (lo+j)).sum≤M:=by
 rw [DP (ω':=ω) (fun i hi=>by rw [h i hi])];exact hs
theorem BZ {bs qs:Nat→Nat}{n:Nat}(h1:∀i,i<n→bs i≤qs i)(h2:∀i,i+1<n→qs i≤bs (i+1)):∀d i,i+d+1<n→qs i≤bs (i+d+1)
 | 0,i,h=>h2 i h
 | d+1,i,h=>a6 (BZ h1 h2 d i (by omega)) (a6 (h1 (i+d+1) (by omega)) (h2 (i+d+1) h))
theorem L0 {bs qs:Nat→Nat}(h1:∀i,i<n→bs i≤qs i)(h2:∀i,i+1<n→qs i≤bs (i+1)):∀i j,i<j→j<n→qs i≤bs j:=fun i j _ hj=>by
 have:=BZ h1 h2 (j-i-1) i (by omega)
 rwa [show i+(j-i-1)+1=j by omega] at this
theorem tI {lo:Nat}{ω Ω Ω':Nat→List Nat}(hl:∀j,(Ω' j).length=(dD (4+n1+n2) Ω j).length)(h:∀j,j<n→Ω (lo+j)=ω j)(hs:(fJ n ω).sum≤M)(hlo:lo+n≤4+n1+n2:=by omega):(fJ n fun j=>Ω' (lo+j)).sum≤M:=by
 rw [DP (ω':=ω) (fun i hi=>by rw [hl,j0,h i hi])];exact hs
theorem E9 {ω:Nat→List Nat}(h:(fJ n ω).sum≤M):∀i,i<n→(ω i).length≤M:=fun i hi=>by
 have:=gR (fJ n ω) i
 rw [DN hi] at this;omega
theorem wW {k:Int}(h:n1≤M):(d8 k x y z u zs ys n1 n2).n≤M:=by
 unfold d8
 repeat' split
 all_goals first | exact bJ _ | exact h
def UpJ (lb:Nat)(w w':a7):Prop:=UpK lb w w'∧∀(k:Nat) (cs:Array aI) (t:aU) (fr:Nat×Nat),w.heap[k]?=some (.cells cs t fr)→t≠22→t≠54→w'.heap[k]?=some (.cells cs t fr)
section
variable {lb:Nat}{a b c w w':a7}
theorem UpJ.k (h:UpJ lb w w'):UpK lb w w':=h.1
theorem UpJ.size (h:UpJ lb w w'):w.heap.size≤w'.heap.size:=h.1.size
theorem UpJ.trans (h:UpJ lb a b)(e:UpJ lb b c):UpJ lb a c:=⟨h.1.trans e.1,fun k cs t fr p f o=>e.2 k cs t fr (h.2 k cs t fr p f o) f o⟩
theorem UpJ.of_ext (lb:Nat)(e:Ext w w'):UpJ lb w w':=⟨UpK.of_ext lb e,fun _ _ _ _ f _ _=>e.heap f⟩
theorem UpJ.refl (lb:Nat)(w:a7):UpJ lb w w:=UpJ.of_ext lb (Ext.refl w)
theorem UpJ.own {base s:Nat}(h:UpJ lb w w')(ho:Own w base t s A n cap vs)(h1:t≠22)(h2:t≠54):Own w' base t s A n cap vs:=by
 rcases ho with ho | ⟨g,cs,f,hb,o,r⟩
 ·exact bS ho
 ·exact bW ⟨g,cs,f,hb,h.2 g _ _ _ o h1 h2,r⟩
theorem UpJ.ofO {s:Nat}(_:True)(ho:Own w lb 22 s A n cap vs)(u:UpdO A w w'):UpJ lb w w':=by
 refine⟨UpK.ofO (bS G) ho u,fun k cs t fr f D _=>u.heap f fun p o e=>D ?_⟩
 rcases ho with⟨h,_⟩ | ⟨g,cs',E,_,q,_⟩
 ·rw [h] at o;cases o
 ·rw [E] at o;cases o
  simp only at e
  subst e
  unfold Bk at q
  rw [q] at f
  injection f with f
  injection f with _ f
  exact f.symm
theorem UpJ.ofU (hb:Bk w g 54 vs)(hg:lb≤g)(u:Upd g w w'):UpJ lb w w':=by
 refine⟨UpK.ofU hb hg u,fun k cs t fr f _ h=>u.heap f fun e=>h ?_⟩
 subst e
 unfold Bk at hb
 rw [hb] at f
 injection f with f
 injection f with _ f
 exact f.symm
end
def I2 (w:a7)(lb g n:Nat)(ls:List Lst)(x:Lst)(u v:aI)(e:Ending)(w':a7):Prop:=
 e= .returned (.tuple #[])∧UpJ lb w w'∧∃WA c,Bk w' g 54 [AT WA (n+1) c,u,v]∧Own w' lb 22 1 WA (n+1) c ((ls++ [x]).map Lst.v)
theorem yK {nv:aI}{ls:List Lst}(hB:Bk w g 54 [AT WA n wc,iv,nv])(hW:Own w lb 22 1 WA n wc (ls.map Lst.v))(hlb:lb≤w.heap.size)(hg:lb≤g)(hn:n≤1099511600000):aQ aM 19 #[no g 0,J s A m c] w (I2 w lb g n ls ⟨A,m,c⟩ iv nv):=by
 refine bP Tryz.func19 G (n:=15) G (bq G) (args:= [no g 0,J s A m c]) (bH [(0,no g 0),(1,J s A m c)] ⟨rfl,rfl,Fo⟩ (sr (mB G G (vs:= (O s A m c)) G fun X v2 nb=>?_)))
 have ai:=nb.bk
 have az:w.heap.size≤X:=by rw [←nb.at_];exact (UpJ.refl lb w).size
 have Z:=nb.ext
 clear nb
 have ao:UpJ lb w v2:=(UpJ.refl lb w).trans (UpJ.of_ext lb Z)
 refine aA (bH [(0,no g 0),(1,J s A m c),(3,no X 0)] ⟨rfl,rfl,rfl,Fo⟩ ?_)
 obtain⟨v6,hv,L⟩:∃v,v=v2.drew∧Ext v2 v:=⟨_,rfl,aD.drew⟩
 have aj:UpJ lb w v6:=ao.trans (UpJ.of_ext lb L)
 obtain⟨g8,v9,F,V,M⟩:=DS v6 22 [AT A m c]
 have W:=F.bk
 have q:=F.ext
 have aa:UpJ lb w v9:=aj.trans (UpJ.of_ext lb q)
 have f:=(hW.ext (Z.t (L.t q)))
 obtain⟨p,h,D,ab,E,H,_⟩:=xD (P:=aM) (ty:=39) jT qB G (by decide) (by decide) f (a6 hlb aa.size) (m:=1) (c:=1) (news:= [AT A m c]) G (u3 W) G (by omega)
 have o:=(hB.ext (Z.t (L.t q))).byOK f (by decide) H
 rw [uE] at E
 have am:UpJ lb v9 D:=UpJ.ofO (by simp) f H
 have ar:UpJ lb w D:=aa.trans am
 obtain⟨I,Y,ae,U,_⟩:=tQ (P:=aM) (v:= AT p (n+1) h) (T:=39) (fun _=>by kernel_rfl) G o (show 0<3 by decide) G [AT p (n+1) h,iv,nv] rfl
 have an:UpJ lb D I:=UpJ.ofU o hg U
 have ag:=(E).updT o (by decide) U
 have au:UpJ lb w I:=ar.trans an
 refine G4 bR (w:=v6) [no g 0,no g 0,no g 0,no g 0,AT WA n wc,no X 1,AT A m c,AT (some ⟨g8,0,none⟩) 1 1,AT p (n+1) h,no g 0,no g 0,undef] [v6,v9,D,I] [7,8,11] [[],[],[1],[2],[3],[],[5],[6],[4,7],[0],[9],[8,10]] [[],[],[1],[1,2],[1,2,3],[],[5],[5,6],[1,2,3,4,5,6,7],[0,1,2,3,4,5,6,7,8],[0,1,2,3,4,5,6,7,8,9],[0,1,2,3,4,5,6,7,8,9,10]] [(0,0),(0,1),(0,2),(1,0),(1,1),(2,0),(2,1),(3,0),(3,1),(4,0),(4,1),(5,0),(6,0),(7,0),(8,1),(9,2),(10,2),(11,2)] G hv ?_ ?_
 ·refine eK _ G G G G G (cJ G) (eK _ G G G G G (cJ G) (eK _ G G G G G (cJ G) (eK _ G G G G G (cJ G) (eK _ G G G G G (cJ G) (eK _ G G G G G (iE G) (eK _ G G G G G (iE G) (eK _ G G G G G (iE G) (eK _ G G G G G (iE G) (eK _ G G G G G (cB G (bA (fun _=>by kernel_rfl) (hB.ext (Z.t L)) G)) (eK _ G G G G G (cB G (bA (fun _=>by kernel_rfl) (hB.ext (Z.t (L.t q))) G)) (eK _ G G G G G (iE G) (eK _ G G G G G (cB G (bA cZ (ai.ext L) G)) (uU _ G G G G G G (CN G (fun _=>by kernel_rfl) V M) ?_)))))))))))))
  refine uU _ G G G G G G (CO G G ab) (eK _ G G G G G (iE G) (eK _ G G G G G (iE G) (FT _ G G G G G G (eR G G Y) ?_)))
  exact FU
 clear hv
 refine fU [(0,no g 0),(1,J s A m c),(3,no X 0),(4,no g 0),(5,no g 0),(6,no g 0),(7,no g 0),(8,AT WA n wc),(9,no X 1),(10,AT A m c),(11,AT (some ⟨g8,0,none⟩) 1 1),(12,AT p (n+1) h),(13,no g 0),(14,no g 0)] ⟨rfl,rfl,rfl,rfl,rfl,rfl,rfl,rfl,rfl,rfl,rfl,rfl,rfl,rfl,Fo⟩ (qG [] G Fo ?_)
 exact⟨rfl,au,p,h,ae,ag⟩
theorem QY {nv:aI}{ls:List Lst}(hB:Bk w g 54 [AT WA n wc,iv,nv])(hW:Own w lb 22 1 WA n wc (ls.map Lst.v))(hlb:lb≤w.heap.size)(hg:lb≤g)(hn:n≤1099511600000):aQ aM 21 #[no g 0,AT A m c] w (I2 w lb g n ls ⟨A,m,c⟩ iv nv):=by
 refine bP Tryz.func21 G (n:=14) G (bq G) (args:= [no g 0,AT A m c]) (bH [(0,no g 0),(1,AT A m c)] ⟨rfl,rfl,Fo⟩ (aJ (mv 2 G (pf g 0 G (pf g 0 G (aP G G (bA (fun _=>by kernel_rfl) hB G) (mv 1 G (fA G G (k:=1) (e:=22) [AT A m c] (fun _=>by kernel_rfl) fun _ _ nb=>?_))))))))
 have q:=nb.bk
 have p:=nb.ext
 clear nb
 have o:=hW.ext p
 refine mC G G G jT qB G o (a6 hlb p.size) [AT A m c] G (u3 q) G fun E H _ I uo kp=>(pf g 0 G (pf g 0 G ?_))
 have f:=(hB.ext p).byOK o (by decide) uo
 refine eJ G G G (fun _=>by kernel_rfl) G f (bq G) G [AT E (n+1) H,iv,nv] G fun _ D F _=>(aR (qG [] G Fo (⟨rfl,(UpJ.of_ext lb p).trans ((UpJ.ofO Fo o uo).trans (UpJ.ofU f hg F)),E,H,D,?_⟩)))
 have h:=I.updT f (by decide) F
 rw [uE] at h
 exact h
end Go.Proofs.YtkkabncicmhjfaaGreat
