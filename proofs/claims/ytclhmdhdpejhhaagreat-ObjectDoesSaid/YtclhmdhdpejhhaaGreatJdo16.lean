/- Tk Vv Pc Vc Vd Pd Pl Ue Tl Uf Vg Pp Vw Vp Vq Vh: what the law needs of these -/import Derived.Test.YtclhmdhdpejhhaaGreatJdo15
set_option linter.unusedVariables false
set_option linter.unusedSimpArgs false
namespace Go.Proofs.Tryz
open Go.L Go.Rp Go.Sk
set_option maxRecDepth 100000
theorem QC(h:zd)(c:Nat):Qb prog h .eql 25 (V.ptr c 0) (V.val (.pointer none))=some (.bool false):=by kernel_rfl
theorem zbc(h:zd)(c:Nat):Qb prog h .neq 25 (V.ptr c 0) (V.val (.pointer none))=some (.bool true):=by kernel_rfl
theorem BodAt.kind{k:Nat}{h:zd}{s:Nat}{Y:List Nat}{m:Nat}{its:List (Int×Nat)}(B:BodAt k h s Y m its):k=1\/k=2\/k=3:=by
 rcases B with ⟨h,_⟩|⟨h,_⟩|⟨h,_⟩ <;> omega
def zfv(k:Nat):Nat:=if k=1 then 112 else if k=2 then 116 else 120
theorem zmj{k:Nat}(hk:k=1\/k=2\/k=3)(s:Nat):Qc prog (zfv k) (.agg [.ptr s 0]) "reaper/object.plain"=some (zmi k true,.agg [.ptr s 0]):=by
 rcases hk with rfl|rfl|rfl
 . show Qc prog 112 (.agg [.ptr s 0]) "reaper/object.plain"=some (173,.agg [.ptr s 0]);kernel_rfl
 . show Qc prog 116 (.agg [.ptr s 0]) "reaper/object.plain"=some (198,.agg [.ptr s 0]);kernel_rfl
 . show Qc prog 120 (.agg [.ptr s 0]) "reaper/object.plain"=some (221,.agg [.ptr s 0]);kernel_rfl
theorem zmk{k:Nat}(hk:k=1\/k=2\/k=3)(s:Nat):Qc prog (zfv k) (.agg [.ptr s 0]) "reaper/object.batch"=some (zmi k false,.agg [.ptr s 0]):=by
 rcases hk with rfl|rfl|rfl
 . show Qc prog 112 (.agg [.ptr s 0]) "reaper/object.batch"=some (171,.agg [.ptr s 0]);kernel_rfl
 . show Qc prog 116 (.agg [.ptr s 0]) "reaper/object.batch"=some (196,.agg [.ptr s 0]);kernel_rfl
 . show Qc prog 120 (.agg [.ptr s 0]) "reaper/object.batch"=some (219,.agg [.ptr s 0]);kernel_rfl
theorem znB{k:Nat}(hk:k=1\/k=2\/k=3)(pl:Bool):X0 (zmi k pl)=true/\okV prog 28 (zmi k pl)=true:=by
 rcases hk with rfl|rfl|rfl <;> cases pl
 . show X0 171=true/\okV prog 28 171=true;exact⟨by kernel_rfl,by kernel_rfl⟩
 . show X0 173=true/\okV prog 28 173=true;exact⟨by kernel_rfl,by kernel_rfl⟩
 . show X0 196=true/\okV prog 28 196=true;exact⟨by kernel_rfl,by kernel_rfl⟩
 . show X0 198=true/\okV prog 28 198=true;exact⟨by kernel_rfl,by kernel_rfl⟩
 . show X0 219=true/\okV prog 28 219=true;exact⟨by kernel_rfl,by kernel_rfl⟩
 . show X0 221=true/\okV prog 28 221=true;exact⟨by kernel_rfl,by kernel_rfl⟩
theorem zeQ (n : Nat) {k : Nat} {h : zd} {o s c : Nat} {cb : Option Nat} {Y : List Nat} {m : Nat} {pl : Bool} {st : St} (A : ObAt k h o s c cb Y m pl st) (os : List O) (osb : Bool) (hk : ∀ o ∈ os, 0 <= o.k /\ o.k < 256) (hos : os.length <= 1000) (hn : 2 * os.length + m + 100 <= n) :
    ∃ h' Y' T,call (n+8) 17 [.ptr o 0,.sl 2 (os.map O.w) osb] h=some (.ret [.row T 2 0 os.length],h')/\RowR h' T (JQ k m os st).2/\ObAt k h' o s c cb Y' m pl (JQ k m os st).1/\h.length<=T/\T ∉ obB o c cb Y'/\XFed h h' (obB o c cb Y) (obB o c cb Y'):=by
 have hkk:=A.body.kind;obtain⟨h',Y',T,e,b1,b2,b3,b4,b5,b6,b7⟩:=zrw n pl A.body A.bits A.room A.most A.cY A.cbY os osb hk hos hn;have hol:=zT A.box;have hA:=A.lt;have oX:o ∉ c :: Y:=by
  intro ho;rcases zL.1 ho with e|e
  . exact A.oc e
  . exact A.oY e
 have hcl:=A.bits.clt;refine⟨h',Y',T,?_,b1,⟨(b7.old o hol oX).trans A.box,b3,b2,b4,A.most,A.oc,A.ocb,?_,?_,?_⟩,b5,?_,⟨b7.len,fun i h1 h2=>b7.old i h1 (fun hm=>h2 ?_),fun x hx=>?_⟩⟩
 . rw[show n+8=(n+7)+1 from rfl,zri];unfold ztB;rw[QC,za,zm,if_neg (by decide),zC A.box,zn,if_pos (by decide)];simp only[zb,zj,za];rw[zm];cases pl with
   | true =>
     rw[if_pos rfl,zC A.box,zn,if_pos (by decide)];simp only[zb,zj,za];rw[zC A.box,zn,if_pos (by decide)];simp only[zb,zj,za];rw[if_pos (by rfl)];show bd2 (Qc prog (zfv k) (.agg [.ptr s 0]) "reaper/object.plain") _=_;rw[zmj hkk,Zf,if_pos (znB hkk true)];show clH (call (n+7) (zmi k true) [.agg [.ptr s 0],.ptr c 0,.sl 2 (os.map O.w) osb] h) _=_;rw[e];rfl
   | false =>
     rw[if_neg (by decide),zC A.box,zn,if_pos (by decide)];simp only[zb,zj,za];rw[zC A.box,zn,if_pos (by decide)];simp only[zb,zj,za];rw[if_pos (by rfl)];show bd2 (Qc prog (zfv k) (.agg [.ptr s 0]) "reaper/object.batch") _=_;rw[zmk hkk,Zf,if_pos (znB hkk false)];show clH (call (n+7) (zmi k false) [.agg [.ptr s 0],.ptr c 0,.sl 2 (os.map O.w) osb] h) _=_;rw[e];rfl
 . intro hy;rcases b7.new o hy with e1|e1
   . exact A.oY e1
   . omega
 . intro hy;rcases b7.new c hy with e1|e1
   . exact A.cY e1
   . omega
 . intro b hb hy;rcases b7.new b hy with e1|e1
   . exact A.cbY b hb e1
   . have:=(hb ▸ A.bits).blt;omega
 . intro hT;simp only[obB,zL,Zi] at hT;rcases hT with e1|e1|e1|e1
   . omega
   . omega
   . cases cb with
     | none=>simp at e1
     | some b=>simp at e1;have:=A.bits.blt;omega
   . exact b6 e1
 . rcases zL.1 hm with e1|e1
   . simp[obB,e1]
   . simp[obB,e1]
 . simp only[obB,zL,Zi] at hx ⊢;rcases hx with e1|e1|e1|e1
   . exact .inl (.inl e1)
   . exact .inl (.inr (.inl e1))
   . exact .inl (.inr (.inr (.inl e1)))
   . rcases b7.new x e1 with e2|e2
     . exact .inl (.inr (.inr (.inr e2)))
     . exact .inr e2
def SlJ(h:zd)(lo:Nat)(r:V)(l:List Int):Prop:=SlI h lo r l\/r=.sl 1 (l.map (Xc .i32)) false
theorem SlJ.sees{h:zd}{lo:Nat}{r:V}{l:List Int}(s:SlJ h lo r l):zhh h r l:=by
 rcases s with s|rfl
 . exact s.sees
 . exact⟨⟨1,ZW ..⟩,fun i x hx=>⟨_,Xb (es:=Xc .i32 x) (by rw[zG,hx];rfl) false,Zl ..⟩⟩
theorem SlJ.len{h:zd}{lo:Nat}{r:V}{l:List Int}(s:SlJ h lo r l):∃ sz,ZR h r=some (sz,l.map (Xc .i32)):=s.sees.1
theorem zuM{ts:List Tw}(hh:∀ t∈ts,1<=t.ht):lvV 0 ts=(itT ts).map Prod.fst:=by
 unfold lvV itT;rw[List.map_map,Xp.2 (fun t ht=>by have:=hh t ht;simp;omega)];rfl
theorem zml{k:Nat}(hk:k=1\/k=2\/k=3)(s:Nat):Qc prog (zfv k) (.agg [.ptr s 0]) "Items"=some (if k=1 then 168 else if k=2 then 191 else 217,.ptr s 0):=by
 rcases hk with rfl|rfl|rfl
 . show Qc prog 112 (.agg [.ptr s 0]) "Items"=some (168,.ptr s 0);kernel_rfl
 . show Qc prog 116 (.agg [.ptr s 0]) "Items"=some (191,.ptr s 0);kernel_rfl
 . show Qc prog 120 (.agg [.ptr s 0]) "Items"=some (217,.ptr s 0);kernel_rfl
theorem zrx{k:Nat}(hk:k=1\/k=2\/k=3)(s:Nat):Qc prog (zfv k) (.agg [.ptr s 0]) "Len"=some (if k=1 then 169 else if k=2 then 192 else 218,.ptr s 0):=by
 rcases hk with rfl|rfl|rfl
 . show Qc prog 112 (.agg [.ptr s 0]) "Len"=some (169,.ptr s 0);kernel_rfl
 . show Qc prog 116 (.agg [.ptr s 0]) "Len"=some (192,.ptr s 0);kernel_rfl
 . show Qc prog 120 (.agg [.ptr s 0]) "Len"=some (218,.ptr s 0);kernel_rfl
theorem zry{k:Nat}(hk:k=1\/k=2\/k=3):X0 (if k=1 then 168 else if k=2 then 191 else 217)=true/\okV prog 27 (if k=1 then 168 else if k=2 then 191 else 217)=true:=by
 rcases hk with rfl|rfl|rfl
 . show X0 168=true/\okV prog 27 168=true;exact⟨by kernel_rfl,by kernel_rfl⟩
 . show X0 191=true/\okV prog 27 191=true;exact⟨by kernel_rfl,by kernel_rfl⟩
 . show X0 217=true/\okV prog 27 217=true;exact⟨by kernel_rfl,by kernel_rfl⟩
theorem zt8{k:Nat}(hk:k=1\/k=2\/k=3):X0 (if k=1 then 169 else if k=2 then 192 else 218)=true/\okV prog 3 (if k=1 then 169 else if k=2 then 192 else 218)=true:=by
 rcases hk with rfl|rfl|rfl
 . show X0 169=true/\okV prog 3 169=true;exact⟨by kernel_rfl,by kernel_rfl⟩
 . show X0 192=true/\okV prog 3 192=true;exact⟨by kernel_rfl,by kernel_rfl⟩
 . show X0 218=true/\okV prog 3 218=true;exact⟨by kernel_rfl,by kernel_rfl⟩
theorem zeR (n : Nat) {k : Nat} {h : zd} {s : Nat} {Y : List Nat} {m : Nat} {its : List (Int × Nat)} (B : BodAt k h s Y m its) (room : its.length <= m) (hm : m <= 1000) (hn : m + 10 < n) :
    ∃ h' r,call (n+3) (if k=1 then 168 else if k=2 then 191 else 217) [.ptr s 0] h=some (.ret [r],h')/\SlJ h' h.length r (its.map Prod.fst)/\h.length<=h'.length/\∀ i,i < h.length->h'[i]?=h[i]?:=by
 have hlim:1000000 < lim:=by unfold lim;omega
 rcases B with ⟨rfl,xs,qb,rfl,S,rfl⟩|⟨rfl,xs,b,rfl,RR,rfl⟩|⟨rfl,ts,rfl,⟨N,S⟩,rfl⟩
 . rw[Jr] at room;rw[Y5];exact⟨h++[HB.row 21 1 (xs.map Yq) true],.row h.length 1 0 xs.length,j8 (n+2) S (by omega),.inl (.inr ⟨h.length,true,zl _,rfl,zI⟩),by simp,fun i hi=>zk hi⟩
 . rw[Jr] at room;rw[Y5];obtain⟨h',r,z,e,b1,b2,b3,b4⟩:=zeO n RR (by omega) (by omega);exact⟨h',_,e,.inl (.inr ⟨r,z,b2,rfl,b1⟩),b3,b4⟩
 . rw[Q6] at room;obtain⟨h',r,e,b1,b2,b3⟩:=zlH n S (by omega) (by omega);rw[zuM (fun t ht=>(S.ht t ht).1)] at b1;exact⟨h',r,e,.inl b1,b2,b3⟩
theorem zfw (n : Nat) {k : Nat} {h : zd} {o s c : Nat} {cb : Option Nat} {Y : List Nat} {m : Nat} {pl : Bool} {st : St} (A : ObAt k h o s c cb Y m pl st) (hn : m + 10 < n) :
    ∃ h' r,call (n+4) 20 [.ptr o 0] h=some (.ret [r],h')/\SlJ h' h.length r (st.1.map Prod.fst)/\h.length<=h'.length/\∀ i,i < h.length->h'[i]?=h[i]?:=by
 have hkk:=A.body.kind;obtain⟨h',r,e,b1,b2,b3⟩:=zeR n A.body A.room A.most hn;refine⟨h',r,?_,b1,b2,b3⟩;rw[show n+4=(n+3)+1 from rfl,zkb];unfold zka;rw[QC,za,zm,if_neg (by decide),zC A.box,zn,if_pos (by decide)];simp only[zb,zj,za];show bd2 (Qc prog (zfv k) (.agg [.ptr s 0]) "Items") _=_;rw[zml hkk,Zf,if_pos (zry hkk)];show cl (call (n+3) _ [.ptr s 0] h) _ _=_;rw[e,zM,zx]
theorem zkE (n : Nat) {k : Nat} {h : zd} {o s c : Nat} {cb : Option Nat} {Y : List Nat} {m : Nat} {pl : Bool} {st : St} (A : ObAt k h o s c cb Y m pl st) :
    call (n+2) 30 [.ptr o 0] h=some (.ret [.int .i64 (st.1.length:Int)],h):=by
 have hkk:=A.body.kind;have e:call (n+1) (if k=1 then 169 else if k=2 then 192 else 218) [.ptr s 0] h=some (.ret [.int .i64 (st.1.length:Int)],h):=by
  rcases A.body with ⟨rfl,xs,qb,hi,S,rfl⟩|⟨rfl,xs,b,hi,RR,rfl⟩|⟨rfl,ts,hi,⟨N,S⟩,rfl⟩
  . rw[hi,Jr];exact Yr n S
  . rw[hi,Jr];exact Qm n RR
  . rw[hi,Q6];exact jX n S
 rw[show n+2=(n+1)+1 from rfl,zo0];unfold zrj;rw[QC,za,zm,if_neg (by decide),zC A.box,zn,if_pos (by decide)];simp only[zb,zj,za];show bd2 (Qc prog (zfv k) (.agg [.ptr s 0]) "Len") _=_;rw[zrx hkk,Zf,if_pos (zt8 hkk)];show cl (call (n+1) _ [.ptr s 0] h) _ _=_;rw[e,zM,zx]
theorem zbd (n : Nat) {k : Nat} {h : zd} {o s c : Nat} {cb : Option Nat} {Y : List Nat} {m : Nat} {pl : Bool} {st : St} (A : ObAt k h o s c cb Y m pl st) (bs : List Int) (bb : Bool) (hs : Q5 bs = true) (hl : st.2.length + 8 * bs.length <= 20000) (hn : bs.length + 8 < n) :
    ∃ h' cb',call (n+2) 23 [.ptr o 0,.sl 1 (bs.map (Xc .u8)) bb] h=some (.ret [],h')/\ObAt k h' o s c cb' Y m pl (st.1,st.2++bs.flatMap J1)/\XFed h h' (obB o c cb Y) (obB o c cb' Y):=by
 obtain⟨h',cb',e,b1,b2⟩:=zou n A.bits bs bb hs hl hn;have hol:=zT A.box;have hYl:=A.body.lt;have hnew:∀ b,cb'=some b->cb=some b\/h.length<=b:=b2.own;have hY:∀ y∈Y,h'[y]?=h[y]?:=fun y hy=>b2.old y (hYl y hy) (fun e=>A.cY (e ▸ hy)) (fun e=>A.cbY y e hy);refine⟨h',cb',?_,⟨(b2.old o hol A.oc A.ocb).trans A.box,b1,A.body.keep hY,A.room,A.most,A.oc,fun e=>?_,A.oY,A.cY,fun b hb hy=>?_⟩,⟨b2.len,fun i h1 h2=>b2.old i h1 (fun e=>h2 (by simp[obB,e])) (fun e=>h2 (by simp[obB,e])),fun x hx=>?_⟩⟩
 . rw[show n+2=(n+1)+1 from rfl,zmc];unfold zns;rw[zbc,za,zm,if_pos rfl,zC A.box,zn,if_pos (by decide)];simp only[zb,zj,za];rw[e,zM]
 . rcases hnew o e with k1|k1
   . exact A.ocb k1
   . omega
 . rcases hnew b hb with k1|k1
   . exact A.cbY b k1 hy
   . have:=hYl b hy;omega
 . simp only[obB,zL,Zi] at hx ⊢;rcases hx with e1|e1|e1|e1
   . exact .inl (.inl e1)
   . exact .inl (.inr (.inl e1))
   . cases cb' with
     | none=>simp at e1
     | some b =>
       simp at e1;subst e1;rcases hnew _ rfl with k1|k1
       . exact .inl (.inr (.inr (.inl (by simp[k1]))))
       . exact .inr k1
   . exact .inl (.inr (.inr (.inr e1)))
def zcP:List (V×V):=[(.int .u8 1,.fn 56 []),(.int .u8 2,.fn 58 []),(.int .u8 3,.fn 60 [])]
noncomputable def JM(n F:Nat)(m:Int)(p:Bool)(h:zd):Option (Res×zd) :=
 (cl (call n F [(V.int .i64 m)] h) (fun r16 h17 =>
 (Zr r16 fun v19 =>
 (cl (call n 62 [] h17) (fun r20 h21 =>
 (Zr r20 fun v23 =>
 (bd (Qo prog 125 [(0,v19),(1,v23),(2,(V.bool p))]) fun cs24 =>
 (if (cs24).length=3 then
 some (Res.ret [(V.ptr (h21).length 0)],(h21++[(HB.box 3 cs24)])) else none)))) (fun z22 h21=>some (Res.pan z22,h21))))) (fun z18 h17=>some (Res.pan z18,h17)))
theorem zkF(n:Nat)(m:Int)(p:Bool):call (n+1) 15 [.int .u8 1,.int .i64 m,.bool p] []=JM n 56 m p [.map zcP]:=by kernel_rfl
theorem zkG(n:Nat)(m:Int)(p:Bool):call (n+1) 15 [.int .u8 2,.int .i64 m,.bool p] []=JM n 58 m p [.map zcP]:=by kernel_rfl
theorem zkH(n:Nat)(m:Int)(p:Bool):call (n+1) 15 [.int .u8 3,.int .i64 m,.bool p] []=JM n 60 m p [.map zcP]:=by kernel_rfl
def Q2(m:Int):Nat:=(if 0 < (if 1000 < m then 1000 else m) then(if 1000 < m then 1000 else m) else 0).toNat
theorem znC(m:Int):(if 0 < (if 1000 < m then 1000 else m) then(if 1000 < m then 1000 else m) else 0)=((Q2 m:Nat):Int):=by
 unfold Q2
 (repeat' split) <;> omega
theorem qC(m:Int):Q2 m<=1000:=by
 unfold Q2
 (repeat' split) <;> omega
theorem zkI(m:Int):max 0 (min m 1000)=((Q2 m:Nat):Int):=by
 unfold Q2
 (repeat' split) <;> omega
theorem zbe(n:Nat)(h:zd)(m:Int):call (n+1) 57 [.int .i64 m] h=some (.ret [.ptr h.length 0],h++[.box 2 [.sl 0 [] true,.int .i64 (Q2 m:Int)]]):=by
 rw[zoS,<- znC];rfl
theorem zbf(n:Nat)(h:zd)(m:Int):call (n+1) 59 [.int .i64 m] h=some (.ret [.ptr (h.length+1) 0],h++[.row 21 1 (List.replicate (Q2 m) [.int .i32 0]) true,.box 3 [.row h.length 1 0 (Q2 m),.int .i64 0,.int .i64 0]]):=by
 have hc:=qC m;rw[zoW];unfold zq6;rw[znC,Za,zy,zy,if_pos ⟨zl _,by unfold lim;omega,by first|trivial|rfl⟩];simp
def zo5(k:Nat):Nat:=if k=1 then 56 else if k=2 then 58 else 60
theorem zmm(v:V)(s:Nat):Qo prog 112 [(0,.ptr s 0)]=some [.ptr s 0]:=by kernel_rfl
theorem zmn(s:Nat):Qo prog 116 [(0,.ptr s 0)]=some [.ptr s 0]:=by kernel_rfl
theorem zmo(s:Nat):Qo prog 120 [(0,.ptr s 0)]=some [.ptr s 0]:=by kernel_rfl
theorem zeS(t:Nat)(v:V)(c:Nat)(p:Bool):Qo prog 125 [(0,.iface t v),(1,.ptr c 0),(2,.bool p)]=some [.iface t v,.ptr c 0,.bool p]:=by kernel_rfl
theorem zsS(n:Nat){k:Nat}(hk:k=1\/k=2\/k=3)(m:Int)(g:zd):∃ g' s Y,call (n+2) (zo5 k) [.int .i64 m] g=some (.ret [zeP k s],g')/\BodAt k g' s Y (Q2 m) []/\g.length<=g'.length/\(∀ i,i < g.length->g'[i]?=g[i]?)/\∀ y∈Y,g.length<=y:=by
 rcases hk with rfl|rfl|rfl
 . refine⟨_,_,[g.length],?_,.inl ⟨rfl,[],none,rfl,⟨rfl,zI⟩,rfl⟩,by simp,fun i hi=>zk hi,by simp⟩;show call (n+1+1) 56 [.int .i64 m] g=_;rw[zeF];unfold zc5;rw[zbe,zM,zx,zmm (.bool true),za];rfl
 . refine⟨g++[.row 21 1 (List.replicate (Q2 m) [.int .i32 0]) true,.box 3 [.row g.length 1 0 (Q2 m),.int .i64 0,.int .i64 0]],g.length+1,[g.length+1,g.length],?_,.inr (.inl ⟨rfl,[],g.length,rfl,⟨by omega,List.replicate (Q2 m) [.int .i32 0],true,0,?_,?_,by simp,?_,by simp,by simp,?_⟩,rfl⟩),by simp,fun i hi=>zk hi,by simp⟩
   . show call (n+1+1) 58 [.int .i64 m] g=_;rw[zeG];unfold zc6;rw[zbf,zM,zx,zmn,za];rfl
   . rw[zK (by omega),Xt];rfl
   . rw[zK (by omega),QX];rfl
   . omega
   . intro es hes;rw[(List.mem_replicate.1 hes).2];rfl
 . obtain⟨N,e,S⟩:=zd7 n g m;rw[zkI] at e S;refine⟨_,g.length,[g.length],?_,.inr (.inr ⟨rfl,[],rfl,⟨N,S⟩,rfl⟩),by simp,fun i hi=>zk hi,by simp⟩;show call (n+1+1) 60 [.int .i64 m] g=_;rw[zeH];unfold zc7;rw[e,zM,zx,zmo,za];rfl
theorem zhQ(n:Nat){k:Nat}(hk:k=1\/k=2\/k=3)(m:Int)(pl:Bool)(g:zd):∃ h' o s c Y,JM (n+2) (zo5 k) m pl g=some (.ret [.ptr o 0],h')/\ObAt k h' o s c none Y (Q2 m) pl ([],[])/\g.length<=h'.length/\(∀ i,i < g.length->h'[i]?=g[i]?)/\∀ x∈obB o c none Y,g.length<=x:=by
 obtain⟨g',s,Y,e,B,b1,b2,b3⟩:=zsS n hk m g;have hY:=B.lt;have k1:∀ i,i < g'.length->((g'++[HB.box 1 [V.sl 0 [] true]])++[HB.box 3 [zeP k s,.ptr g'.length 0,.bool pl]])[i]?=g'[i]?:=fun i hi=>by
  rw[zk (by simp;omega),zk hi]
 refine⟨(g'++[HB.box 1 [V.sl 0 [] true]])++[HB.box 3 [zeP k s,.ptr g'.length 0,.bool pl]],g'.length+1,s,g'.length,Y,?_,⟨?_,⟨rfl,?_⟩,B.keep (fun y hy=>k1 y (hY y hy)),Ze _,qC m,by omega,by simp,fun hy=>by have:=hY _ hy;omega,fun hy=>by have:=hY _ hy;omega,by simp⟩,by simp;omega,fun i hi=>(k1 i (by omega)).trans (b2 i hi),?_⟩
 . unfold JM;rw[e,zM,zx,WS,zM,zx];unfold zeP;rw[zeS,za,if_pos (by rfl)];simp
 . rw[zK (by simp)];simp
 . rw[zk (by simp),zI]
 . intro x hx;simp only[obB,zL,Zi,Option.toList_none,List.not_mem_nil,false_or] at hx;rcases hx with e1|e1|e1
   . omega
   . omega
   . exact b3 x e1
theorem zkJ(n:Nat){k:Nat}(hk:k=1\/k=2\/k=3)(m:Int)(pl:Bool):∃ h' o s c Y,call (n+3) 15 [.int .u8 (k:Int),.int .i64 m,.bool pl] []=some (.ret [.ptr o 0],h')/\ObAt k h' o s c none Y (Q2 m) pl ([],[]):=by
 obtain⟨h',o,s,c,Y,e,A,_⟩:=zhQ n hk m pl [.map zcP];refine⟨h',o,s,c,Y,?_,A⟩;rw[<- e];rcases hk with rfl|rfl|rfl
 . exact zkF (n+2) m pl
 . exact zkG (n+2) m pl
 . exact zkH (n+2) m pl
end Go.Proofs.Tryz
namespace Go.Proofs.Tryz
open Go.L Go.Rp Go.Sk
set_option maxRecDepth 100000
theorem znD(s:Nat):jz prog 120 true (.iface 120 (.agg [.ptr s 0]))=some (.agg [.ptr s 0],true):=by kernel_rfl
theorem zsT(s:Nat):jz prog 120 true (.iface 112 (.agg [.ptr s 0]))=some (.agg [.val (.pointer none)],false):=by kernel_rfl
theorem zsU(s:Nat):jz prog 120 true (.iface 116 (.agg [.ptr s 0]))=some (.agg [.val (.pointer none)],false):=by kernel_rfl
def lvK(k j:Nat)(its:List (Int×Nat)):List Int:=if k=3 then(its.filter fun p=>decide (j < p.2)).map Prod.fst else[]
theorem zt9(j:Nat)(ts:List Tw):lvV j ts=((itT ts).filter fun p=>decide (j < p.2)).map Prod.fst:=by
 unfold lvV itT
 induction ts with
 | nil=>rfl
 | cons t ts ih =>
   rw[zS,Jf,Jf];by_cases h:j < t.ht
   . simp[h,ih]
   . simp[h,ih]
theorem qZ (n : Nat) {k : Nat} {h : zd} {o s c : Nat} {cb : Option Nat} {Y : List Nat} {m : Nat} {pl : Bool} {st : St} (A : ObAt k h o s c cb Y m pl st) {j : Nat} (hj : j < 8) (hn : m + 10 < n) :
    ∃ h' r,call (n+3) 29 [.ptr o 0,.int .i64 ((j+1:Nat):Int)] h=some (.ret [r],h')/\SlJ h' h.length r (lvK k j st.1)/\h.length<=h'.length/\∀ i,i < h.length->h'[i]?=h[i]?:=by
 have hroom:=A.room;have hmost:=A.most;rcases A.body with ⟨rfl,xs,qb,hi,S,rfl⟩|⟨rfl,xs,b,hi,RR,rfl⟩|⟨rfl,ts,hi,⟨N,S⟩,rfl⟩
 . refine⟨h,_,?_,.inr rfl,zl _,fun _ _=>rfl⟩;rw[show n+3=(n+2)+1 from rfl,qA];unfold zeo;rw[QC,za,zm,if_neg (by decide),zC A.box,zn,if_pos (by decide)];simp only[zb,za];show bd2 (jz prog 120 true (.iface 112 (.agg [.ptr s 0]))) _=_;rw[zsT,Zf,if_pos (by rfl),if_pos (by exact zl 1),if_pos (by rfl)];rfl
 . refine⟨h,_,?_,.inr rfl,zl _,fun _ _=>rfl⟩;rw[show n+3=(n+2)+1 from rfl,qA];unfold zeo;rw[QC,za,zm,if_neg (by decide),zC A.box,zn,if_pos (by decide)];simp only[zb,za];show bd2 (jz prog 120 true (.iface 116 (.agg [.ptr s 0]))) _=_;rw[zsU,Zf,if_pos (by rfl),if_pos (by exact zl 1),if_pos (by rfl)];rfl
 . rw[hi,Q6] at hroom;obtain⟨h',r,e,b1,b2,b3⟩:=zea n S hj (by unfold lim;omega) (by omega);refine⟨h',r,?_,.inl (by rw[hi];show SlI h' h.length r (if 3=3 then _ else[]);rw[if_pos rfl,<- zt9];exact b1),b2,b3⟩;rw[show n+3=(n+2)+1 from rfl,qA];unfold zeo;rw[QC,za,zm,if_neg (by decide),zC A.box,zn,if_pos (by decide)];simp only[zb,za];show bd2 (jz prog 120 true (.iface 120 (.agg [.ptr s 0]))) _=_;rw[znD,Zf,if_pos (by rfl),if_pos (by exact zl 1),if_neg (by decide)];show bd (some (V.ptr s 0)) _=_;rw[za,e,zM,zx]
end Go.Proofs.Tryz
namespace Go.Proofs.Tryz
open Go.L
set_option maxRecDepth 100000
noncomputable def znE(n:Nat)(s:Nat)(h:zd):Option (Res×zd) :=
 (bd (Qb prog h .eql 113 (V.ptr s 0) (V.val (.pointer none))) fun v0 =>
 (bv v0 fun b1=>if b1 then
 (cl (call n 59 [(V.int .i64 0)] h) (fun r2 h3 =>
 (Zr r2 fun v5 =>
 some (Res.ret [v5],h3))) (fun z4 h3=>some (Res.pan z4,h3)))
 else
 (bd3 (zu h (V.ptr s 0)) fun cs7 m6 o8=>if (o8+1<=m6/\0 < 1) then
 (bd (cs7)[o8]? fun v9 =>
 (bd (ZR h v9) fun p10 =>
 (if ((p10.1=1\/(p10.2).isEmpty=true)/\(p10.2).length < lim) then
 (bd3 (zu h (V.ptr s 1)) fun cs12 m11 o13=>if (o13+1<=m11/\0 < 1) then
 (bd (cs12)[o13]? fun v14 =>
 (bd3 (zu h (V.ptr s 2)) fun cs16 m15 o17=>if (o17+1<=m15/\0 < 1) then
 (bd (cs16)[o17]? fun v18 =>
 (bd (Qo prog 174 [(0,(V.row (h).length 1 0 (p10.2).length)),(1,v14),(2,v18)]) fun cs19 =>
 (bd (Qo prog 176 [(0,(V.agg cs19))]) fun cs20 =>
 (if (cs20).length=3 then
 some (Res.ret [(V.ptr ((h++[(HB.row 21 1 p10.2 true)])).length 0)],((h++[(HB.row 21 1 p10.2 true)])++[(HB.box 3 cs20)])) else none)))) else none)) else none) else none))) else none)))
theorem zmp(n:Nat)(s:Nat)(h:zd):call (n+1) 200 [(V.ptr s 0)] h=znE n s h:=by kernel_rfl
noncomputable def zkK(n:Nat)(s:Nat)(h:zd):Option (Res×zd) :=
 (bd (Qb prog h .eql 122 (V.ptr s 0) (V.val (.pointer none))) fun v0 =>
 (bv v0 fun b1=>if b1 then
 (cl (call n 62 [] h) (fun r2 h3 =>
 (Zr r2 fun v5 =>
 some (Res.ret [v5],h3))) (fun z4 h3=>some (Res.pan z4,h3)))
 else
 (bd3 (zu h (V.ptr s 0)) fun cs7 m6 o8=>if (o8+1<=m6/\0 < 1) then
 (bd (cs7)[o8]? fun v9 =>
 (bd (ZR h v9) fun p10 =>
 (if ((p10.1=1\/(p10.2).isEmpty=true)/\(p10.2).length < lim) then
 some (Res.ret [(V.ptr ((h++[(HB.row 4 1 p10.2 true)])).length 0)],((h++[(HB.row 4 1 p10.2 true)])++[(HB.box 1 [(V.row (h).length 1 0 (p10.2).length)])])) else none))) else none)))
theorem zkL(n:Nat)(s:Nat)(h:zd):call (n+1) 69 [(V.ptr s 0)] h=zkK n s h:=by kernel_rfl
noncomputable def zbV(n:Nat)(x3:Nat)(x4:Nat)(b:Nat)(z16:V)(h:zd):Option (Bool×zd) :=
 (lpR ((h)[b]?) fun cD cV cF cP cA cB =>
 (bd3 (zu ((h).set b (HB.loop cD cV cF cP cA cB .busy)) (V.ptr x4 0)) fun cs29 m28 o30=>if (o30+8<=m28/\0 < 8) then
 (bd (ZL 0 z16) fun p31 =>
 (bd (ZL 0 p31) fun p32 =>
 (bd3 (zu ((h).set b (HB.loop cD cV cF cP cA cB .busy)) p32) fun cs34 m33 o35=>if (o35+1<=m33/\0 < 1) then
 (bd (cs34)[o35]? fun v36 =>
 (bd (ZL 0 z16) fun p37 =>
 (bd (ZL 1 p37) fun p38 =>
 (bd3 (zu ((h).set b (HB.loop cD cV cF cP cA cB .busy)) p38) fun cs40 m39 o41=>if (o41+1<=m39/\0 < 1) then
 (bd (cs40)[o41]? fun v42 =>
 (clH (call n 232 [v36,v42] ((h).set b (HB.loop cD cV cF cP cA cB .busy))) fun r43 h44 =>
 (Zr r43 fun v46 =>
 (zeZ ((h).set b (HB.loop cD cV cF cP cA cB .busy)) h44 (if qok [(((h).set b (HB.loop cD cV cF cP cA cB .busy))).length] [x4,x4]=true then
 (clH (call n 231 [(V.agg ((cs29).drop o30 |>.take 8)),v46] h44) fun r47 h48 =>
 (Zr r47 fun v50 =>
 (if ((V.cells v50)).length=8 then
 (bd2 (Zt h48 (V.cells v50) (V.ptr x4 0)) fun b51 x52 =>
 (bd3 (zu ((h48).set b51 x52) (V.ptr x3 0)) fun cs54 m53 o55=>if (o55+1<=m53/\0 < 1) then
 (bd (cs54)[o55]? fun v56 =>
 (bd (ZL 0 v56) fun p57 =>
 (bd (ZL 10 p57) fun p58 =>
 (bd3 (zu ((h48).set b51 x52) p58) fun cs60 m59 o61=>if (o61+1<=m59/\0 < 1) then
 (bd (cs60)[o61]? fun v62 =>
 (bd (bop prog .add 3 v62 (V.int .i64 1)) fun v63 =>
 (bd (ZL 0 v56) fun p64 =>
 (bd (ZL 10 p64) fun p65 =>
 (if ((V.cells v63)).length=1 then
 (bd2 (Zt ((h48).set b51 x52) (V.cells v63) p65) fun b66 x67 =>
 (lpB ((((((h48).set b51 x52)).set b66 x67))[b]?) fun eD eV eF eP eA eB=>some (true,(((((h48).set b51 x52)).set b66 x67)).set b (HB.loop eD eV eF eP eA eB .ready)))) else none))))) else none)))) else none)) else none))) else none))))) else none)))) else none))) else none))
theorem zhR(n:Nat)(y0:Option V)(y2:Option V)(x3:Nat)(x4:Nat)(y6:Option V)(y7:Option V)(y8:Option V)(y9:Option V)(y10:Option V)(y12:Option V)(y13:Option V)(y14:Option V)(y15:Option V)(b:Nat)(z16:V)(h:zd):zbs prog (call n) X0 W1 n (L.textDraws prog) false [y0,none,y2,some (V.ptr x3 0),some (V.ptr x4 0),none,y6,y7,y8,y9,y10,none,y12,y13,y14,y15,none,none,none,none,none,none,none,none,none,none,none,none,none,none,none,none,none,none,none,none] [16] (Yn (XB f223)) (Yo (XB f223)) b [z16] h=zbV n x3 x4 b z16 h:=by kernel_rfl
noncomputable def znF(n:Nat)(s:Nat)(h:zd):Option (Res×zd) :=
 (cl (call n 226 [(V.ptr s 0)] h) (fun r0 h1 =>
 (Zr r0 fun v3 =>
 (cl (call n 61 [v3] h1) (fun r4 h5 =>
 (Zr r4 fun v7 =>
 (if ((V.cells v7)).length=1 then
 (if (((V.cells v7)).length<=1) then
 (bd (Qb prog h5 .eql 117 (V.ptr s 0) (V.val (.pointer none))) fun v8 =>
 (bv v8 fun b9=>if b9 then
 (bd ((setR [(V.val (.pointer none))] 0 (V.cells v7)))[0]? fun v10 =>
 some (Res.ret [v10],h5))
 else
 (bd ((setR [(V.val (.pointer none))] 0 (V.cells v7)))[0]? fun v11 =>
 (cl (call n 230 [v11] h5) (fun r12 h13 =>
 (Zr r12 fun v15 =>
 (if ((V.cells v15)).length=8 then
 (if (((V.cells v15)).length<=8) then
 (cl (call n 100 [(V.ptr s 0),(V.int .i64 1)] h13) (fun r16 h17 =>
 (Zr r16 fun v19 =>
 (fnK v19 fun f20 c21=>if ((WW prog f20).isNone && (XX (Yn (XB f223)) && XX (Yo (XB f223))))=true then
 (clN (call n f20 ((V.yld ((((h17++[(HB.box 8 (setR [(V.val (.pointer none)),(V.val (.pointer none)),(V.val (.pointer none)),(V.val (.pointer none)),(V.val (.pointer none)),(V.val (.pointer none)),(V.val (.pointer none)),(V.val (.pointer none))] 0 (V.cells v15)))])++[(HB.box 1 (setR [(V.val (.pointer none))] 0 (V.cells v7)))])).length+1)) :: c21) (((h17++[(HB.box 8 (setR [(V.val (.pointer none)),(V.val (.pointer none)),(V.val (.pointer none)),(V.val (.pointer none)),(V.val (.pointer none)),(V.val (.pointer none)),(V.val (.pointer none)),(V.val (.pointer none))] 0 (V.cells v15)))])++[(HB.box 1 (setR [(V.val (.pointer none))] 0 (V.cells v7)))])++[HB.defb,HB.loop (((h17++[(HB.box 8 (setR [(V.val (.pointer none)),(V.val (.pointer none)),(V.val (.pointer none)),(V.val (.pointer none)),(V.val (.pointer none)),(V.val (.pointer none)),(V.val (.pointer none)),(V.val (.pointer none))] 0 (V.cells v15)))])++[(HB.box 1 (setR [(V.val (.pointer none))] 0 (V.cells v7)))])).length false [some (V.ptr s 0),none,some (V.val (.pointer none)),some (V.ptr ((h17++[(HB.box 8 (setR [(V.val (.pointer none)),(V.val (.pointer none)),(V.val (.pointer none)),(V.val (.pointer none)),(V.val (.pointer none)),(V.val (.pointer none)),(V.val (.pointer none)),(V.val (.pointer none))] 0 (V.cells v15)))])).length 0),some (V.ptr (h17).length 0),none,some (V.ptr s 0),some v3,some v7,some (V.ptr s 0),some (V.bool false),none,some v11,some v15,some (V.ptr s 0),some v19,none,none,none,none,none,none,none,none,none,none,none,none,none,none,none,none,none,none,none,none] [16] (Yn (XB f223)) (Yo (XB f223)) .ready])) fun h23=>lpE ((h23)[((((h17++[(HB.box 8 (setR [(V.val (.pointer none)),(V.val (.pointer none)),(V.val (.pointer none)),(V.val (.pointer none)),(V.val (.pointer none)),(V.val (.pointer none)),(V.val (.pointer none)),(V.val (.pointer none))] 0 (V.cells v15)))])++[(HB.box 1 (setR [(V.val (.pointer none))] 0 (V.cells v7)))])).length+1)]?) (
 (bd3 (zu ((h23).set ((((h17++[(HB.box 8 (setR [(V.val (.pointer none)),(V.val (.pointer none)),(V.val (.pointer none)),(V.val (.pointer none)),(V.val (.pointer none)),(V.val (.pointer none)),(V.val (.pointer none)),(V.val (.pointer none))] 0 (V.cells v15)))])++[(HB.box 1 (setR [(V.val (.pointer none))] 0 (V.cells v7)))])).length+1) HB.dead) (V.ptr ((h17++[(HB.box 8 (setR [(V.val (.pointer none)),(V.val (.pointer none)),(V.val (.pointer none)),(V.val (.pointer none)),(V.val (.pointer none)),(V.val (.pointer none)),(V.val (.pointer none)),(V.val (.pointer none))] 0 (V.cells v15)))])).length 0)) fun cs25 m24 o26=>if (o26+1<=m24/\0 < 1) then
 (bd (cs25)[o26]? fun v27 =>
 (dfB ((((h23).set ((((h17++[(HB.box 8 (setR [(V.val (.pointer none)),(V.val (.pointer none)),(V.val (.pointer none)),(V.val (.pointer none)),(V.val (.pointer none)),(V.val (.pointer none)),(V.val (.pointer none)),(V.val (.pointer none))] 0 (V.cells v15)))])++[(HB.box 1 (setR [(V.val (.pointer none))] 0 (V.cells v7)))])).length+1) HB.dead))[(((h17++[(HB.box 8 (setR [(V.val (.pointer none)),(V.val (.pointer none)),(V.val (.pointer none)),(V.val (.pointer none)),(V.val (.pointer none)),(V.val (.pointer none)),(V.val (.pointer none)),(V.val (.pointer none))] 0 (V.cells v15)))])++[(HB.box 1 (setR [(V.val (.pointer none))] 0 (V.cells v7)))])).length]?) (
 some (Res.ret [v27],((((h23).set ((((h17++[(HB.box 8 (setR [(V.val (.pointer none)),(V.val (.pointer none)),(V.val (.pointer none)),(V.val (.pointer none)),(V.val (.pointer none)),(V.val (.pointer none)),(V.val (.pointer none)),(V.val (.pointer none))] 0 (V.cells v15)))])++[(HB.box 1 (setR [(V.val (.pointer none))] 0 (V.cells v7)))])).length+1) HB.dead)).set (((h17++[(HB.box 8 (setR [(V.val (.pointer none)),(V.val (.pointer none)),(V.val (.pointer none)),(V.val (.pointer none)),(V.val (.pointer none)),(V.val (.pointer none)),(V.val (.pointer none)),(V.val (.pointer none))] 0 (V.cells v15)))])++[(HB.box 1 (setR [(V.val (.pointer none))] 0 (V.cells v7)))])).length HB.dead))))) else none)) (
 (dfB ((((h23).set ((((h17++[(HB.box 8 (setR [(V.val (.pointer none)),(V.val (.pointer none)),(V.val (.pointer none)),(V.val (.pointer none)),(V.val (.pointer none)),(V.val (.pointer none)),(V.val (.pointer none)),(V.val (.pointer none))] 0 (V.cells v15)))])++[(HB.box 1 (setR [(V.val (.pointer none))] 0 (V.cells v7)))])).length+1) HB.dead))[(((h17++[(HB.box 8 (setR [(V.val (.pointer none)),(V.val (.pointer none)),(V.val (.pointer none)),(V.val (.pointer none)),(V.val (.pointer none)),(V.val (.pointer none)),(V.val (.pointer none)),(V.val (.pointer none))] 0 (V.cells v15)))])++[(HB.box 1 (setR [(V.val (.pointer none))] 0 (V.cells v7)))])).length]?) (
 some (Res.ret [(V.val (.pointer none))],((((h23).set ((((h17++[(HB.box 8 (setR [(V.val (.pointer none)),(V.val (.pointer none)),(V.val (.pointer none)),(V.val (.pointer none)),(V.val (.pointer none)),(V.val (.pointer none)),(V.val (.pointer none)),(V.val (.pointer none))] 0 (V.cells v15)))])++[(HB.box 1 (setR [(V.val (.pointer none))] 0 (V.cells v7)))])).length+1) HB.dead)).set (((h17++[(HB.box 8 (setR [(V.val (.pointer none)),(V.val (.pointer none)),(V.val (.pointer none)),(V.val (.pointer none)),(V.val (.pointer none)),(V.val (.pointer none)),(V.val (.pointer none)),(V.val (.pointer none))] 0 (V.cells v15)))])++[(HB.box 1 (setR [(V.val (.pointer none))] 0 (V.cells v7)))])).length HB.dead)))))) else none))) (fun z18 h17=>some (Res.pan z18,h17))) else none) else none))) (fun z14 h13=>some (Res.pan z14,h13)))))) else none) else none))) (fun z6 h5=>some (Res.pan z6,h5))))) (fun z2 h1=>some (Res.pan z2,h1)))
theorem zmq(n:Nat)(s:Nat)(h:zd):call (n+1) 223 [(V.ptr s 0)] h=znF n s h:=by kernel_rfl
noncomputable def znG(n:Nat)(s:Nat)(h:zd):Option (Res×zd) :=
 (bd (Qb prog h .eql 25 (V.ptr s 0) (V.val (.pointer none))) fun v0 =>
 (bv v0 fun b1=>if b1 then
 some (Res.ret [(V.val (.pointer none))],h)
 else
 (bd3 (zu h (V.ptr s 0)) fun cs3 m2 o4=>if (o4+1<=m2/\0 < 1) then
 (bd (cs3)[o4]? fun v5 =>
 (ifK v5 fun t6 w7=>bd2 (Qc prog t6 w7 "reaper/object.copy") fun f8 w9=>if (X0 f8=true/\okV prog 108 f8=true) then
 (clH (call n f8 ([w9]++[]) h) fun r10 h11 =>
 (Zr r10 fun v13 =>
 (zeZ h h11 (if qok [(h).length] [s,s]=true then
 (bd3 (zu h11 (V.ptr s 1)) fun cs15 m14 o16=>if (o16+1<=m14/\0 < 1) then
 (bd (cs15)[o16]? fun v17 =>
 (clH (call n 69 [v17] h11) fun r18 h19 =>
 (Zr r18 fun v21 =>
 (zeZ h11 h19 (if qok [(h).length,(h11).length] [s,s]=true then
 (bd3 (zu h19 (V.ptr s 2)) fun cs23 m22 o24=>if (o24+1<=m22/\0 < 1) then
 (bd (cs23)[o24]? fun v25 =>
 (bd (Qo prog 125 [(0,v13),(1,v21),(2,v25)]) fun cs26 =>
 (if (cs26).length=3 then
 some (Res.ret [(V.ptr (h19).length 0)],(h19++[(HB.box 3 cs26)])) else none))) else none) else none))))) else none) else none)))) else none)) else none)))
theorem zmr(n:Nat)(s:Nat)(h:zd):call (n+1) 28 [(V.ptr s 0)] h=znG n s h:=by kernel_rfl
end Go.Proofs.Tryz
namespace Go.Proofs.Tryz
open Go.L Go.Rp Go.Sk
set_option maxRecDepth 100000
theorem znH:XX (Yn (XB f223))=true/\XX (Yo (XB f223))=true:=⟨by kernel_rfl,by kernel_rfl⟩
theorem zsV:((WW prog 132).isNone && (XX (Yn (XB f223)) && XX (Yo (XB f223))))=true:=by kernel_rfl
def zhS(y0 y2:Option V)(x3 x4:Nat)(y6 y7 y8 y9 y10 y12 y13 y14 y15:Option V):List (Option V):=[y0,none,y2,some (V.ptr x3 0),some (V.ptr x4 0),none,y6,y7,y8,y9,y10,none,y12,y13,y14,y15,none,none,none,none,none,none,none,none,none,none,none,none,none,none,none,none,none,none,none,none]
noncomputable def zbW(D:Nat)(fr:List (Option V))(st:LSt):HB:=.loop D false fr [16] (Yn (XB f223)) (Yo (XB f223)) st
theorem zeT{h:zd}{b c:Nat}(hb:b≠c)(x:HB)(o:Nat):zu (h.set b x) (.ptr c o)=zu h (.ptr c o):=by
 simp only[zu];rw[ze hb]
theorem zms{h:zd}{b c:Nat}(hb:b≠c)(x:HB)(vs:List V)(o:Nat):Zt (h.set b x) vs (.ptr c o)=Zt h vs (.ptr c o):=by
 simp only[Zt];rw[ze hb]
section
variable {y0 y2 y6 y7 y8 y9 y10 y12 y13 y14 y15:Option V}
theorem zrz(n:Nat){h:zd}{b D x3 x4:Nat}(hb:h[b]?=some (zbW D (zhS y0 y2 x3 x4 y6 y7 y8 y9 y10 y12 y13 y14 y15) .ready))(z:V):rnd n b [z] h=zbV n x3 x4 b z h :=
 (zd9 n hb [z] rfl znH.1 znH.2).trans (zhR n y0 y2 x3 x4 y6 y7 y8 y9 y10 y12 y13 y14 y15 b z h)
structure CpAt(h hh:zd)(s:Nat)(ts:List Tw)(most:Int)(N:Nx)(fr:List (Option V)):Prop where
 len:h.length+7<=hh.length
 old:∀ i,i < h.length->hh[i]?=h[i]?
 sk:SkAt hh h.length ts most N
 fresh:∀ t∈ts,h.length+7<=t.b
 p0:hh[h.length+1]?=some (.box 1 [.ptr s 0])
 p1:hh[h.length+2]?=some (.box 1 [.int .i64 1])
 pa:hh[h.length+3]?=some (.box 8 (ZG (fun k=>Xj h.length ts (Xf ts k ts.length))))
 po:hh[h.length+4]?=some (.box 1 [.ptr h.length 0])
 df:hh[h.length+5]?=some .defb
 lp:hh[h.length+6]?=some (zbW (h.length+5) fr .ready)
theorem zrA{ts:List Tw}{v:Int}(h:∀ t∈ts,t.v<=v):Xw ts v=ts.length:=by
 unfold Xw
 induction ts with
 | nil=>rfl
 | cons a ts ih =>
   rw[List.takeWhile_cons,if_pos (decide_eq_true (h a (zF ..))),zD,zD,ih fun t ht=>h t (zw _ ht)]
theorem zsW (n : Nat) {h hh : zd} {s : Nat} {ts : List Tw} {most : Int} {N M : Nx} (C : CpAt h hh s ts most N (zhS y0 y2 (h.length + 4) (h.length + 3) y6 y7 y8 y9 y10 y12 y13 y14 y15)) {x : Tw} (hx : jc h M (ndT x)) (hht : 1 <= x.ht /\ x.ht <= 8) (hv : ∀ t ∈ ts, t.v <= x.v) (hl : ts.length + 1 < lim) (hn : ts.length + 8 < n) :
    ∃ hh' u N',rnd (n+2) (h.length+6) [.ptr x.b 0] hh=some (true,hh')/\CpAt h hh' s (ts++[u]) most N' (zhS y0 y2 (h.length+4) (h.length+3) y6 y7 y8 y9 y10 y12 y13 y14 y15)/\u.v=x.v/\u.ht=x.ht:=by
 rw[zrz (n+2) C.lp];have hlen:=C.len;have hxb:x.b < h.length:=zT hx;unfold zbV;rw[C.lp];simp only[zbW,lpR];generalize hbusy:HB.loop (h.length+5) false (zhS y0 y2 (h.length+4) (h.length+3) y6 y7 y8 y9 y10 y12 y13 y14 y15) [16] (Yn (XB f223)) (Yo (XB f223)) .busy=B0;obtain⟨G,hG⟩:∃ G,G=hh.set (h.length+6) B0:=⟨_,rfl⟩;rw[<- hG];have hGl:G.length=hh.length:=by rw[hG,zt]
 have hGo:∀ i,i≠h.length+6->G[i]?=hh[i]?:=fun i hi=>by rw[hG,ze (Ne.symm hi)]
 have hGb:G[h.length+6]?=some B0:=by rw[hG];exact Xr (by omega) _
 have hsk:∀ b∈skB h.length ts,b=h.length\/h.length+7<=b:=fun b hb=>by
  rcases zL.1 hb with e|hb
  . exact .inl e
  . obtain⟨t,ht,rfl⟩:=Zv.1 hb;exact .inr (C.fresh t ht)
 have SG:SkAt G h.length ts most N:=C.sk.keep fun b hb=>hGo b (by rcases hsk b hb with e|e <;> omega);have hul:=zrA hv;obtain⟨u,h1,h2,N',cs,B,hub,huv,hut,_,etall,eput,ec,ec10,ew,S2,l2,o2⟩:=zd6 n SG x.v (x.ht:Int) (fun _=>0) (fun k hk=>⟨Ze _,trivial⟩) hn (by omega);rw[hul] at eput S2;have hins:ins ts ts.length u=ts++[u]:=by simp[ins]
 rw[hins] at eput S2;have huT:u.ht=x.ht:=by omega
 have hh1:h1=G++[.box 10 ([.int .i32 x.v,.int .i64 (max 1 (min (x.ht:Int) 8))]++YX (fun _=>qD))]:=by
  have:=(zgc (n+1) G x.v (x.ht:Int)).symm.trans etall;simp only[Option.some.injEq,Prod.mk.injEq] at this;exact this.2.symm
 have hpre:pre G h1:=fun i hi=>by rw[hh1,zk hi]
 have hGx:∀ o,zu G (.ptr x.b o)=some ((ndT x).cells M,10,o):=fun o=>zC (by rw[hGo _ (by omega),C.old _ hxb];exact hx) o;have hpa:zu G (.ptr (h.length+3) 0)=some (ZG (fun k=>Xj h.length ts (Xf ts k ts.length)),8,0):=zC (by rw[hGo _ (by omega)];exact C.pa) 0;have h2o:∀ i,i < hh.length->i ∉ skB h.length ts->h2[i]?=G[i]?:=fun i hi1 hi2=>by
  have:=o2 i (by omega) hi2;rwa[ze (fun e=>hi2 (by rw[<- e];exact zF ..))] at this
 have h23:∀ i,h.length < i->i < h.length+7->h2[i]?=G[i]?:=fun i a b=>h2o i (by omega) (fun hm=>by rcases hsk i hm with e|e <;> omega);have hl2:h2.length=hh.length+1:=by rw[zt] at l2;omega
 obtain⟨P2,hP2⟩:∃ P2,P2=fun k=>Xj h.length (ts++[u]) (Xf (ts++[u]) k (ts.length+1)):=⟨_,rfl⟩;rw[<- hP2] at eput;have hwp:Zt h2 (ZG P2) (.ptr (h.length+3) 0)=some (h.length+3,.box 8 (ZG P2)):=by
  rw[ZV (n:=8) (cs:=ZG (fun k=>Xj h.length ts (Xf ts k ts.length))) (by rw[h23 _ (by omega) (by omega),hGo _ (by omega)];exact C.pa) (by rw[ZO];omega)];rw[Ws (by rw[ZO,ZO];omega),QM,zU,Zo (by rw[ZO,ZO];omega),Zq]
 rw[hpa,zn,if_pos (by omega),XK,za,XK,za];simp only[zW,zq];rw[hGx,zn,if_pos (by omega),Nd.get0,za,za,XK,za];simp only[zW,zq];rw[hGx,zn,if_pos (by omega),Nd.get1,za];have et':call (n+2) 232 [V.int .i32 (ndT x).v,.int .i64 (ndT x).ht] G=some (.ret [.ptr u.b 0],h1):=etall;rw[et'];simp only[clH];rw[zx,zax hpre,if_pos (by rw[qn];simp;omega),zbF];rw[eput];simp only[clH];rw[zx];rw[show (V.agg (ZG P2)).cells=ZG P2 from rfl,if_pos (ZO _),hwp,Zf];have hpo:zu (h2.set (h.length+3) (.box 8 (ZG P2))) (.ptr (h.length+4) 0)=some ([.ptr h.length 0],1,0):=by
  rw[zeT (by omega)];exact zC (by rw[h23 _ (by omega) (by omega),hGo _ (by omega)];exact C.po) 0
 rw[hpo,zn,if_pos (by omega)];simp only[zb,za,XK,zq,zW];rw[zeT (by omega),ec,zn,if_pos (by omega),ec10,za,zH,za,Xa (by omega)];rw[show V.cells (V.int .i64 ((ts.length+1:Nat):Int))=[V.int .i64 ((ts.length+1:Nat):Int)] from rfl,if_pos (by rfl),zms (by omega),ew,Zf];have hb6:((h2.set (h.length+3) (.box 8 (ZG P2))).set h.length B)[h.length+6]?=some B0:=by
  rw[ze (by omega),ze (by omega),h23 _ (by omega) (by omega)];exact hGb
 rw[hb6,<- hbusy];simp only[lpB];have hoth:∀ i,i≠h.length+6->i≠h.length+3->(((h2.set (h.length+3) (.box 8 (ZG P2))).set h.length B).set (h.length+6) (HB.loop (h.length+5) false (zhS y0 y2 (h.length+4) (h.length+3) y6 y7 y8 y9 y10 y12 y13 y14 y15) [16] (Yn (XB f223)) (Yo (XB f223)) .ready))[i]?=(h2.set h.length B)[i]?:=fun i a b=>by
  rw[ze (Ne.symm a),List.set_comm _ _ (by omega),ze (Ne.symm b)]
 have hmid:∀ i,h.length < i->i < h.length+7->(h2.set h.length B)[i]?=G[i]?:=fun i a b=>by rw[ze (by omega),h23 i a b]
 have hfr:∀ t∈ts++[u],h.length+7<=t.b:=fun t ht=>by
  rcases Zi.1 ht with ht|ht
  . exact C.fresh t ht
  . rw[Zx.1 ht];omega
 refine⟨_,u,N',rfl,⟨by simp only[zt];omega,fun i hi=>?_,S2.keep fun b hb=>?_,hfr,?_,?_,?_,?_,?_,?_⟩,huv,huT⟩
 . rw[hoth i (by omega) (by omega),o2 i (by omega) (fun hm=>by rcases hsk i hm with e|e <;> omega),hGo i (by omega),C.old i hi]
 . have:b=h.length\/h.length+7<=b:=by
     rcases zL.1 hb with e|hb
     . exact .inl e
     . obtain⟨t,ht,rfl⟩:=Zv.1 hb;exact .inr (hfr t ht)
   exact hoth b (by omega) (by omega)
 . rw[hoth _ (by omega) (by omega),hmid _ (by omega) (by omega),hGo _ (by omega)];exact C.p0
 . rw[hoth _ (by omega) (by omega),hmid _ (by omega) (by omega),hGo _ (by omega)];exact C.p1
 . rw[ze (by omega),List.set_comm _ _ (by omega),Xr (by rw[zt];omega),hP2,zE];rfl
 . rw[hoth _ (by omega) (by omega),hmid _ (by omega) (by omega),hGo _ (by omega)];exact C.po
 . rw[hoth _ (by omega) (by omega),hmid _ (by omega) (by omega),hGo _ (by omega)];exact C.df
 . exact Xr (by simp only[zt];omega) _
theorem zsX(n:Nat){h:zd}{s:Nat}{ss:List Tw}{most:Int}{M:Nx}(S:SkAt h s ss most M)(hlim:ss.length+1 < lim)(hn:ss.length+8 < n):∀ (d K:Nat) (hh:zd) (ts:List Tw) (N:Nx),ts.length+d=ss.length->d < K->itT ts=itT (ss.take ts.length)->CpAt h hh s ts most N (zhS y0 y2 (h.length+4) (h.length+3) y6 y7 y8 y9 y10 y12 y13 y14 y15) →
    ∃ hh' ts' N',zR K (QV (n+2) (h.length+6) (h.length+2)) [nx 0 (ss.drop ts.length)] hh=some (.ret [],hh')/\itT ts'=itT ss/\CpAt h hh' s ts' most N' (zhS y0 y2 (h.length+4) (h.length+3) y6 y7 y8 y9 y10 y12 y13 y14 y15):=by
 intro d
 induction d with
 | zero =>
   intro K hh ts N h1 h2 hi C;obtain⟨K,rfl⟩:∃ K',K=K'+1:=⟨K - 1,by omega⟩;refine⟨hh,ts,N,?_,by rw[hi,zN (by omega)],C⟩;rw[zA,Zo (by omega)];unfold QV;show bd (Qb prog hh .neq 177 (gv [qD] 0) _) _=_;simp only[gv,zf,qD,zal,za,zm];rw[if_neg (by decide)]
 | succ d ih =>
   intro K hh ts N h1 h2 hi C;obtain⟨K,rfl⟩:∃ K',K=K'+1:=⟨K - 1,by omega⟩;have hlt:ts.length < ss.length:=by omega
   have hx:ss[ts.length]?=some ss[ts.length]:=zg hlt;have hdr:ss.drop ts.length=ss[ts.length] :: ss.drop (ts.length+1):=zQ hlt;generalize ss[ts.length]=x at hx hdr;have hht:=S.ht x (zJ hx);have hmem:ndT x∈nds s (ss.length:Int) most ss:=zw _ (Zp (zJ hx));have hxa:=S.rep.at_ _ hmem;have hv:∀ t∈ts,t.v<=x.v:=fun t ht=>by
    obtain⟨i,hi'⟩:=ZB.1 ht;have hil:=(zi.1 hi').1;have h3:(itT (ss.take ts.length))[i]?=some (t.v,t.ht):=by rw[<- hi];unfold itT;rw[zG,hi'];rfl
    unfold itT at h3;rw[zG,Zb,if_pos hil] at h3;cases hz:ss[i]? with
    | none=>rw[hz] at h3;cases h3
    | some z =>
      rw[hz] at h3;simp at h3;have:=S.up;unfold Rise at this;have hp:=XM.1 this i ts.length (by omega) hlt hil;rw[zg (by omega)] at hz hx;rw[<- h3.1,<- Option.some.inj hz,<- Option.some.inj hx];exact hp
   obtain⟨hh1,u,N1,e1,C1,u1,u2⟩:=zsW n C hxa hht hv (by omega) (by omega);have hlen1:(ts++[u]).length=ts.length+1:=by simp
   obtain⟨hh2,ts2,N2,e2,i2,C2⟩:=ih K hh1 (ts++[u]) N1 (by omega) (by omega) (by
    rw[hlen1,Jx,hx];unfold itT at hi ⊢;rw[Zu,Zu,hi];simp[u1,u2]) C1
   rw[hlen1] at e2;refine⟨hh2,ts2,N2,?_,i2,C2⟩;have hxb:x.b < h.length:=zT hxa;have hnx:nx 0 (ss.drop ts.length)=.ptr x.b 0:=by
    rw[hdr];unfold nx jb;rw[List.find?_cons_of_pos (by simp;omega)]
   have hrd:zu hh1 (.ptr x.b 2)=some ((ndT x).cells M,10,2):=zC (by rw[C1.old _ hxb];exact hxa) _;have hgx:((ndT x).cells M)[2]?=some (nx 0 (ss.drop (ts.length+1))):=by
    rw[show (2:Nat)=2+0 from rfl,(ndT x).get _ (by omega)];have:=S.lk.tw ts.length x 0 hx (by omega);rw[if_pos (by omega)] at this;rw[<- this];rfl
   have key:∀ next,QV (n+2) (h.length+6) (h.length+2) [.ptr x.b 0] hh next=next [nx 0 (ss.drop (ts.length+1))] hh1:=by
    intro next
    unfold QV;simp only[gv,zf,jd,za,zm,if_true,e1,Zf];rw[zC C1.p1,zn,if_pos (by decide)];simp only[zb,za,ZQ];rw[show IntKind.i64.wrap (1 - 1)=((0:Nat):Int) by decide];simp only[XK,zq,zW,za,nv_int,Qn];rw[if_pos (by omega),hrd,zn,if_pos (by omega),hgx,za]
   rw[zA,hnx,key];exact e2
end
theorem zo6(Q:Nat->Nat):setR [V.val (.pointer none),V.val (.pointer none),V.val (.pointer none),V.val (.pointer none),V.val (.pointer none),V.val (.pointer none),V.val (.pointer none),V.val (.pointer none)] 0 (ZG Q)=ZG Q:=by
 rw[Ws (by rw[ZO];decide),QM,zU,ZO,Zo (by decide),Zq]
theorem zfx (n : Nat) {h : zd} {s : Nat} {ss : List Tw} {m : Nat} {M : Nx} (S : SkAt h s ss (m : Int) M) (hm : m <= 1000) (hlim : ss.length + 1 < lim) (hn : ss.length + 20 < n) :
    ∃ hh' ts N,call (n+4) 223 [.ptr s 0] h=some (.ret [.ptr h.length 0],hh')/\SkAt hh' h.length ts (m:Int) N/\itT ts=itT ss/\(∀ t∈ts,h.length<=t.b)/\h.length<=hh'.length/\∀ i,i < h.length->hh'[i]?=h[i]?:=by
 have hsl:s < h.length:=zT S.hb;obtain⟨N0,enew,S0⟩:=zd7 (n+2) h (m:Int);rw[show max 0 (min (m:Int) 1000)=(m:Int) by omega] at enew S0;obtain⟨h5,hh5⟩:∃ h5:zd,h5=h++[.box 12 ((ndH h.length 0 (m:Int)).cells (fun _ _=>qD))]:=⟨_,rfl⟩;rw[<- hh5] at enew S0;have hl5:h5.length=h.length+1:=by rw[hh5];simp
 have hlv:call (n+3) 100 [.ptr s 0,.int .i64 1] h5=some (.ret [.fn 132 [.ptr h5.length 0,.ptr (h5.length+1) 0]],h5++[.box 1 [.ptr s 0],.box 1 [.int .i64 1]]):=by
  refine(zf5 (n+2) s _ h5).trans ?_;unfold zly;simp
 rw[show n+4=(n+3)+1 from rfl,zmq];unfold znF;rw[zbH (n+2) S,zM,zx,enew,zM,zx,show V.cells (V.ptr h.length 0)=[V.ptr h.length 0] from rfl,if_pos (by rfl),if_pos (by exact zl 1),J2,za,zm,if_neg (by decide)];simp only[jW,J5,zb,za];rw[zam (n+2) h5 h.length (by omega),zM,zx,show V.cells (V.agg (ZG fun _=>h.length))=ZG (fun _=>h.length) from rfl,if_pos (ZO _),if_pos (by rw[ZO];exact zl 8),hlv,zM,zx];simp only[zlp];rw[if_pos zsV,zo6];simp only[zE,zD,zP,List.append_assoc,Z1,zU,ZT,zq,Nat.reduceAdd,hl5];obtain⟨HS,hHS⟩:∃ HS:zd,HS=h5++[HB.box 1 [V.ptr s 0],HB.box 1 [V.int IntKind.i64 1],HB.box 8 (ZG fun _=>h.length),HB.box 1 [V.ptr h.length 0],HB.defb,zbW (h.length+5) (zhS (some (V.ptr s 0)) (some (V.val (.pointer none))) (h.length+4) (h.length+3) (some (V.ptr s 0)) (some (V.int .i64 (m:Int))) (some (V.ptr h.length 0)) (some (V.ptr s 0)) (some (V.bool false)) (some (V.ptr h.length 0)) (some (V.agg (ZG fun _=>h.length))) (some (V.ptr s 0)) (some (V.fn 132 [V.ptr (h.length+1) 0,V.ptr (h.length+2) 0]))) .ready]:=⟨_,rfl⟩;have hS:∀ (T:List HB) i,(h5++T)[h.length+1+i]?=T[i]?:=fun T i=>by rw[zK (by omega),hl5,Xt]
 have hS0:∀ (T:List HB),(h5++T)[h.length+1]?=T[0]?:=fun T=>hS T 0;have C0:CpAt h HS s [] (m:Int) N0 _:=⟨by rw[hHS];simp;omega,fun i hi=>by rw[hHS,zk (by omega),hh5,zk hi],S0.keep (fun b hb=>by
     have hb':b=h.length:=by simpa[skB] using hb
     rw[hHS,zk (by omega)]),by simp,by rw[hHS,hS0];rfl,by rw[hHS];exact hS _ 1,by rw[hHS];exact hS _ 2,by rw[hHS];exact hS _ 3,by rw[hHS];exact hS _ 4,by rw[hHS];exact hS _ 5⟩
 obtain⟨hh',ts,N,e,ei,C⟩:=zsX n S hlim (by omega) ss.length (n+2) HS [] N0 (by simp) (by omega) (by simp[itT]) C0;rw[zP,zO] at e;have hit:call (n+3) 132 [.yld (h.length+6),.ptr (h.length+1) 0,.ptr (h.length+2) 0] HS=some (.ret [],hh'):=by
  refine(zdZ (n+2) _ _ _ HS).trans ?_;unfold zg0;have hrd:zu HS (.ptr s 2)=some ((ndH s (ss.length:Int) (m:Int)).cells M,12,2):=by
   refine zC ?_ _;rw[C0.old _ hsl];exact S.hb
  have hg:((ndH s (ss.length:Int) (m:Int)).cells M)[2]?=some (nx 0 ss):=by
   rw[show (2:Nat)=2+0 from rfl,(ndH s (ss.length:Int) (m:Int)).get _ (by omega)];exact congrArg some (S.lk.hd 0 (by omega))
  rw[zC C0.p0,zn,if_pos (by decide)];simp only[zb,za];rw[zC C0.p1,zn,if_pos (by decide)];simp only[zb,za,ZQ];rw[show IntKind.i64.wrap (1 - 1)=((0:Nat):Int) by decide];simp only[XK,zq,zW,za,nv_int,Qn];rw[if_pos (by omega),hrd,zn,if_pos (by omega),hg,za];exact e
 have hHS':=hHS;simp only[zbW,zhS] at hHS';rw[<- hHS',hit];simp only[clN];have hlen:=C.len;have hlp:=C.lp;rw[hlp];simp only[zbW,lpE];have hdf:(hh'.set (h.length+6) HB.dead)[h.length+5]?=some .defb:=by rw[ze (by omega)];exact C.df
 have hrest:∀ i,i≠h.length+6->i≠h.length+5->((hh'.set (h.length+6) HB.dead).set (h.length+5) HB.dead)[i]?=hh'[i]?:=fun i a b=>by rw[ze (Ne.symm b),ze (Ne.symm a)]
 have hout:zu (hh'.set (h.length+6) HB.dead) (.ptr (h.length+4) 0)=some ([.ptr h.length 0],1,0):=zC (by rw[ze (by omega)];exact C.po) 0;rw[hout,zn,if_pos (by decide)];simp only[zb,za];rw[hdf];simp only[dfB];refine⟨_,ts,N,rfl,C.sk.keep fun b hb=>?_,ei,fun t ht=>by have:=C.fresh t ht;omega,by simp only[zt];omega,fun i hi=>by rw[hrest i (by omega) (by omega),C.old i hi]⟩;refine hrest b ?_ ?_ <;>
 . rcases zL.1 hb with e|hb
   . omega
   . obtain⟨t,ht,rfl⟩:=Zv.1 hb;have:=C.fresh t ht;omega
end Go.Proofs.Tryz
namespace Go.Proofs.Tryz
open Go.L Go.Rp Go.Sk
set_option maxRecDepth 100000
theorem zsY(a b c d:Nat)(m:Int):Qo prog 172 [(0,.row a b c d),(1,.int .i64 m)]=some [.row a b c d,.int .i64 m]:=by kernel_rfl
theorem zo7(a b c d:Nat)(m k:Int):Qo prog 174 [(0,.row a b c d),(1,.int .i64 m),(2,.int .i64 k)]=some [.row a b c d,.int .i64 m,.int .i64 k]:=by kernel_rfl
theorem zrB(x y z:V):Qo prog 176 [(0,.agg [x,y,z])]=some [x,y,z]:=by kernel_rfl
theorem zmt{h:zd}(x y:HB):((h++[x])++[y])[h.length]?=some x/\((h++[x])++[y])[h.length+1]?=some y:=by
 constructor
 . rw[zk (by simp),zI]
 . rw[zK (by simp)];simp
theorem zhT{h:zd}(x y:HB){i:Nat}(hi:i < h.length):((h++[x])++[y])[i]?=h[i]?:=by
 rw[zk (by simp;omega),zk hi]
theorem zfy (n : Nat) {h : zd} {s : Nat} {sb : Option Nat} {most : Int} {xs : List Int} (hb : StkAt h s sb most xs) (hl : xs.length < lim) (hsb : ∀ b, sb = some b -> b < h.length) :
    ∃ h',call (n+2) 175 [.ptr s 0] h=some (.ret [.ptr (h.length+1) 0],h')/\StkAt h' (h.length+1) (some h.length) most xs/\h'.length=h.length+2/\∀ i,i < h.length->h'[i]?=h[i]?:=by
 obtain⟨v,sz,h1,h2,h3⟩:=hb.box;have hs:=zT h1;have hb':StkAt (h++[HB.row 21 1 (xs.map Yq) true]) s sb most xs:=hb.keep (zk hs) (fun b e=>zk (hsb b e));obtain⟨k1,k2⟩:=zmt (h:=h) (HB.row 21 1 (xs.map Yq) true) (.box 2 [.row h.length 1 0 xs.length,.int .i64 most]);refine⟨(h++[HB.row 21 1 (xs.map Yq) true])++[.box 2 [.row h.length 1 0 xs.length,.int .i64 most]],?_,⟨by omega,xs.map Yq,true,k2,k1,by simp,by rw[zN (by simp)]⟩,by simp,fun i hi=>zhT _ _ hi⟩;rw[show n+2=(n+1)+1 from rfl,zl3];unfold znn;rw[j8 n hb hl,zM,zx,qR n hb',zM,zx,zsY,za,if_pos (by rfl)];simp
theorem zfz (n : Nat) {h : zd} {s b c : Nat} {xs : List Int} (hb : RngAt h s b c xs) (hc : c < lim) :
    ∃ h',call (n+1) 200 [.ptr s 0] h=some (.ret [.ptr (h.length+1) 0],h')/\RngAt h' (h.length+1) h.length c xs/\h'.length=h.length+2/\∀ i,i < h.length->h'[i]?=h[i]?:=by
 obtain⟨k,l,z,f,e1,e2,e3,e4,e5,e6,e7⟩:=hb;obtain⟨k1,k2⟩:=zmt (h:=h) (HB.row 21 1 l true) (.box 3 [.row h.length 1 0 c,.int .i64 ((f:Nat):Int),.int .i64 (xs.length:Int)]);refine⟨(h++[HB.row 21 1 l true])++[.box 3 [.row h.length 1 0 c,.int .i64 ((f:Nat):Int),.int .i64 (xs.length:Int)]],?_,⟨by omega,l,true,f,k2,k1,e3,e4,e5,e6,e7⟩,by simp,fun i hi=>zhT _ _ hi⟩;have hsl:ZR h (.row b 1 0 c)=some (1,l):=by rw[<- e3];exact jS e2
 rw[zmp];unfold znE;rw[Y3,za,zm,if_neg (by decide)];simp only[zC e1];rw[zn,if_pos (by decide)];simp only[zb,zj,za];rw[hsl,za,if_pos ⟨.inl rfl,by rw[e3];exact hc⟩,zn,if_pos (by decide)];simp only[zb,zj,za];rw[zn,if_pos (by decide)];simp only[zb,zj,za];rw[e3,zo7,za,zrB,za,if_pos (by rfl)];simp
theorem zeU (n : Nat) {h : zd} {c : Nat} {cb : Option Nat} {bits : List Bool} (hb : BitsAt h c cb bits) (hl : bits.length < lim) :
    ∃ h',call (n+1) 69 [.ptr c 0] h=some (.ret [.ptr (h.length+1) 0],h')/\BitsAt h' (h.length+1) (some h.length) bits/\h'.length=h.length+2/\∀ i,i < h.length->h'[i]?=h[i]?:=by
 obtain⟨k1,k2⟩:=zmt (h:=h) (HB.row 4 1 (bits.map JN) true) (.box 1 [.row h.length 1 0 bits.length]);obtain⟨v,sz,h1,h2,h3⟩:∃ v sz,h[c]?=some (.box 1 [v])/\ZR h v=some (sz,bits.map JN)/\(sz=1\/bits=[]):=by
  cases cb with
  | none =>
    obtain⟨rfl,e⟩:=hb;exact⟨_,0,e,rfl,.inr rfl⟩
  | some b =>
    obtain⟨_,lo,l,z,e1,e2,e3,e4⟩:=hb;exact⟨_,1,e1,by rw[Qx e2 (by omega) e3,e4],.inl rfl⟩
 refine⟨(h++[HB.row 4 1 (bits.map JN) true])++[.box 1 [.row h.length 1 0 bits.length]],?_,⟨by omega,0,bits.map JN,true,by rw[zq];exact k2,k1,by simp,by rw[zN (by simp),zO]⟩,by simp,fun i hi=>zhT _ _ hi⟩;rw[zkL];unfold zkK;rw[ja,za,zm,if_neg (by decide),zC h1,zn,if_pos (by decide)];simp only[zb,za];rw[h2,za,if_pos ⟨h3.imp id (fun e=>by rw[e];rfl),by simpa using hl⟩];simp
def zkM(k:Nat):Nat:=if k=1 then 172 else if k=2 then 197 else 220
theorem zo8{k:Nat}(hk:k=1\/k=2\/k=3)(s:Nat):Qc prog (zfv k) (.agg [.ptr s 0]) "reaper/object.copy"=some (zkM k,.agg [.ptr s 0]):=by
 rcases hk with rfl|rfl|rfl
 . show Qc prog 112 (.agg [.ptr s 0]) "reaper/object.copy"=some (172,.agg [.ptr s 0]);kernel_rfl
 . show Qc prog 116 (.agg [.ptr s 0]) "reaper/object.copy"=some (197,.agg [.ptr s 0]);kernel_rfl
 . show Qc prog 120 (.agg [.ptr s 0]) "reaper/object.copy"=some (220,.agg [.ptr s 0]);kernel_rfl
theorem zrC{k:Nat}(hk:k=1\/k=2\/k=3):X0 (zkM k)=true/\okV prog 108 (zkM k)=true:=by
 rcases hk with rfl|rfl|rfl
 . show X0 172=true/\okV prog 108 172=true;exact⟨by kernel_rfl,by kernel_rfl⟩
 . show X0 197=true/\okV prog 108 197=true;exact⟨by kernel_rfl,by kernel_rfl⟩
 . show X0 220=true/\okV prog 108 220=true;exact⟨by kernel_rfl,by kernel_rfl⟩
theorem zfA (n : Nat) {k : Nat} {h : zd} {s : Nat} {Y : List Nat} {m : Nat} {its : List (Int × Nat)} (B : BodAt k h s Y m its) (room : its.length <= m) (hm : m <= 1000) (hn : m + 40 < n) :
    ∃ h' s' Y',call (n+5) (zkM k) [.agg [.ptr s 0]] h=some (.ret [zeP k s'],h')/\BodAt k h' s' Y' m its/\h.length<=h'.length/\(∀ i,i < h.length->h'[i]?=h[i]?)/\∀ y∈Y',h.length<=y:=by
 have hlim:1000000 < lim:=by unfold lim;omega
 have hlt:=B.lt;rcases B with ⟨rfl,xs,qb,rfl,S,rfl⟩|⟨rfl,xs,b,rfl,RR,rfl⟩|⟨rfl,ts,rfl,⟨N,S⟩,rfl⟩
 . rw[Jr] at room;obtain⟨h',e,S',l',o'⟩:=zfy (n+2) S (by omega) (fun b hb=>hlt b (by simp[hb]));refine⟨h',h.length+1,[h.length+1,h.length],?_,.inl ⟨rfl,xs,some h.length,rfl,S',rfl⟩,by omega,o',fun y hy=>by simp at hy;omega⟩;show call (n+4+1) 172 _ h=_;rw[zkh];unfold zkg;rw[e,zM,zx,zmm (.bool true),za];rfl
 . rw[Jr] at room;have hcl:m < lim:=by omega
   obtain⟨h',e,R',l',o'⟩:=zfz (n+3) RR hcl;refine⟨h',h.length+1,[h.length+1,h.length],?_,.inr (.inl ⟨rfl,xs,h.length,rfl,R',rfl⟩),by omega,o',fun y hy=>by simp at hy;omega⟩;show call (n+4+1) 197 _ h=_;rw[zkn];unfold zkm;rw[e,zM,zx,zmn,za];rfl
 . rw[Q6] at room;obtain⟨h',ts',N',e,S',ei,fr,l',o'⟩:=zfx n S hm (by omega) (by omega);refine⟨h',h.length,skB h.length ts',?_,.inr (.inr ⟨rfl,ts',ei.symm,⟨N',S'⟩,rfl⟩),l',o',fun y hy=>?_⟩
   . show call (n+4+1) 220 _ h=_;rw[zkt];unfold zks;rw[e,zM,zx,zmo,za];rfl
   . rcases zL.1 hy with e|hy
     . omega
     . obtain⟨t,ht,rfl⟩:=Zv.1 hy;exact fr t ht
theorem zbg (n : Nat) {k : Nat} {h : zd} {o s c : Nat} {cb : Option Nat} {Y : List Nat} {m : Nat} {pl : Bool} {st : St} (A : ObAt k h o s c cb Y m pl st) (hb : st.2.length < lim) (hn : m + 40 < n) :
    ∃ h' o' s' c' cb' Y',call (n+6) 28 [.ptr o 0] h=some (.ret [.ptr o' 0],h')/\ObAt k h' o' s' c' cb' Y' m pl st/\h.length<=h'.length/\(∀ i,i < h.length->h'[i]?=h[i]?)/\∀ x∈obB o' c' cb' Y',h.length<=x:=by
 have hkk:=A.body.kind;have hol:=zT A.box;obtain⟨h1,s1,Y1,e1,B1,l1,o1,y1⟩:=zfA n A.body A.room A.most hn;have C1:BitsAt h1 c cb st.2:=A.bits.keep (o1 c A.bits.clt) (fun b hb=>o1 b (by have:=A.bits;rw[hb] at this;exact this.blt));obtain⟨h2,e2,C2,l2,o2⟩:=zeU (n+4) C1 hb;have hb1:h1[o]?=some (.box 3 [zeP k s,.ptr c 0,.bool pl]):=(o1 o hol).trans A.box;have hb2:h2[o]?=some (.box 3 [zeP k s,.ptr c 0,.bool pl]):=(o2 o (by omega)).trans hb1;have hY1:=B1.lt;have k3:∀ i,i < h2.length->(h2++[HB.box 3 [zeP k s1,.ptr (h1.length+1) 0,.bool pl]])[i]?=h2[i]?:=fun i hi=>zk hi;refine⟨h2++[HB.box 3 [zeP k s1,.ptr (h1.length+1) 0,.bool pl]],h2.length,s1,h1.length+1,some h1.length,Y1,?_,⟨zI,C2.keep (k3 _ (by omega)) (fun b hb=>by cases hb;exact k3 _ (by omega)),B1.keep (fun y hy=>(k3 y (by have:=hY1 y hy;omega)).trans (o2 y (hY1 y hy))),A.room,A.most,by omega,fun e=>by have:=Option.some.inj e;omega,fun hy=>by have:=hY1 _ hy;omega,fun hy=>by have:=hY1 _ hy;omega,fun b hb hy=>by cases hb;have:=hY1 _ hy;omega⟩,by simp;omega,fun i hi=>by rw[k3 i (by omega),o2 i (by omega),o1 i hi],fun x hx=>?_⟩
 . rw[show n+6=(n+5)+1 from rfl,zmr];unfold znG;rw[QC,za,zm,if_neg (by decide),zC A.box,zn,if_pos (by decide)];simp only[zb,za];show bd2 (Qc prog (zfv k) (.agg [.ptr s 0]) "reaper/object.copy") _=_;rw[zo8 hkk,Zf,if_pos (zrC hkk)];show clH (call (n+5) (zkM k) [.agg [.ptr s 0]] h) _=_;rw[e1];simp only[clH];rw[zx,zax o1,if_pos (by rw[qn];simp;exact hol),zC hb1,zn,if_pos (by decide)];simp only[zb,zj,za];rw[e2];simp only[clH];rw[zx,zax o2,if_pos (by simp[qok];omega),zC hb2,zn,if_pos (by decide)];simp only[zb,zj,za];unfold zeP;rw[zeS,za,if_pos (by rfl)]
 . simp only[obB,zL,Zi,Option.toList_some,Zx] at hx;rcases hx with e|e|e|e
   . omega
   . omega
   . simp at e;omega
   . exact y1 x e
end Go.Proofs.Tryz
namespace Go.Proofs.Tryz
open Go.L
set_option maxRecDepth 100000
noncomputable def znI(n:Nat)(st1:List V)(next3:List V->zd->Option (Res×zd))(st7:List V)(hh8:zd)(next9:List V->zd->Option (Res×zd)):Option (Res×zd) :=
 (bd (QZ (V.sl 1 (lsl (gv st7 1)) false)) fun n10 =>
 (bdS (nv (gv st7 2)) fun n11 =>
 (bd (Z4 1 0 n11 (none:Option Nat) true (V.sl 1 (lsl (gv st7 1)) false)) fun v12 =>
 (bdS (ZR hh8 v12) fun p13 =>
 (if (55=55/\(p13.1=1\/(p13.2).isEmpty=true)) then
 (bd (app 3 1 (S.own 3 1 []) p13.2) fun l14 =>
 (bd (JY prog 55 1 [(0,(gv st1 2))]) fun p15 =>
 (bd (app 3 1 (S.own 3 1 l14) p15.2) fun l16 =>
 (bd (QZ (V.sl 1 (lsl (gv st7 1)) false)) fun n17 =>
 (bdS (nv (gv st7 2)) fun n18 =>
 (bd (Z4 1 n18 n17 (none:Option Nat) true (V.sl 1 (lsl (gv st7 1)) false)) fun v19 =>
 (bdS (ZR hh8 v19) fun p20 =>
 (if (55=55/\(p20.1=1\/(p20.2).isEmpty=true)) then
 (bd (app 3 1 (S.own 3 1 l16) p20.2) fun l21 =>
 (bd (bop prog .add 3 (gv st1 2) (V.int .i64 1)) fun v22 =>
 (next3 [(V.sl 1 (lsl (gv st7 0)) false),(V.sl 1 l21 false),v22] hh8))) else none)))))))) else none)))))
noncomputable def zbh(n:Nat)(os:List (List V))(st1:List V)(hh2:zd)(next3:List V->zd->Option (Res×zd)):Option (Res×zd) :=
 (bd (bop prog .lss 3 (gv st1 2) (V.int .i64 ((os).length:Int))) fun v4 =>
 (bv v4 fun b5=>if b5 then
 (zR n (znI n st1 next3) [(V.sl 1 (lsl (gv st1 0)) false),(V.sl 1 (lsl (gv st1 1)) false),(V.int .i64 (((lsl (gv st1 1))).length:Int))] hh2)
 else
 some (Res.ret [(V.sl 1 (lsl (gv st1 1)) false)],hh2)))
noncomputable def zsZ(n:Nat)(os:List (List V))(osb:Bool):Option (Res×zd) :=
 (zR n (zbh n os) [(V.sl 1 [] false),(V.sl 1 [] false),(V.int .i64 0)] [])
theorem zs0(n:Nat)(os:List (List V))(osb:Bool)(h:zd):call (n+1) 64 [(V.int .u8 1),(V.sl 2 os osb)] h=gcw [(V.int .u8 1),(V.sl 2 os osb)] (zsZ n os osb) h:=by kernel_rfl
theorem zs1(n:Nat)(os:List (List V))(osb:Bool)(h:zd):call (n+1) 64 [(V.int .u8 2),(V.sl 2 os osb)] h=gcw [(V.int .u8 2),(V.sl 2 os osb)] (zsZ n os osb) h:=by kernel_rfl
end Go.Proofs.Tryz
namespace Go.Proofs.Tryz
open Go.L
set_option maxRecDepth 100000
noncomputable def zrD(n:Nat)(x0:Int)(x1:List (List V))(x1b:Bool)(x2_0:Int)(x2_1:Int)(h:zd):Option (Res×zd) :=
 (if (x2_0 == 1) then
 (cl (call n 129 [(V.int .i64 x0)] h) (fun r0 h1 =>
 (Zr r0 fun v3 =>
 (bd (bop prog .geq 3 (V.int .i64 ((x1).length:Int)) v3) fun v4 =>
 (bv v4 fun b5=>if b5 then
 some (Res.ret [(V.sl 1 x1 x1b),(V.agg [(V.int .u8 3),(V.int .i32 0)])],h1)
 else
 (if (x2_0 == 1) then
 (bd (app 21 1 (S.own 21 1 []) x1) fun l6 =>
 (bd (app 21 1 (S.own 21 1 l6) [[(V.int .i32 x2_1)]]) fun l7 =>
 some (Res.ret [(V.sl 1 l7 false),(V.agg [(V.int .u8 1),(V.int .i32 0)])],h1)))
 else
 (if (x2_0 == 2) then
 (if (decide (((x1).length:Int) > 0)) then
 (bd (QZ (V.sl 1 x1 x1b)) fun n8 =>
 (bdS (nv (V.int .i64 (IntKind.i64.wrap (((x1).length:Int) - 1)))) fun n9 =>
 (bd (Z4 1 0 n9 (none:Option Nat) true (V.sl 1 x1 x1b)) fun v10 =>
 (bdS (ZR h1 v10) fun p11 =>
 (if (27=27/\(p11.1=1\/(p11.2).isEmpty=true)) then
 (bd (app 21 1 (S.own 21 1 []) p11.2) fun l12 =>
 (bdS (nv (V.int .i64 (IntKind.i64.wrap (((x1).length:Int) - 1)))) fun n13 =>
 (bd (ZE 1 n13 (V.sl 1 x1 x1b)) fun p14 =>
 (bd3 (zu h1 p14) fun cs16 m15 o17=>if (o17+1<=m15/\0 < 1) then
 (bd (cs16)[o17]? fun v18 =>
 (bd (Qo prog 35 [(0,(V.int .u8 2)),(1,v18)]) fun cs19 =>
 (if (cs19).length=2 then
 (if ((cs19).length<=2) then
 some (Res.ret [(V.sl 1 l12 false),(V.agg (((setR [(V.int .u8 0),(V.int .i32 0)] 0 cs19)).drop 0 |>.take 2))],h1) else none) else none))) else none)))) else none)))))
 else
 (if (x2_0 == 2) then
 some (Res.ret [(V.sl 1 x1 x1b),(V.agg [(V.int .u8 4),(V.int .i32 0)])],h1)
 else
 some (Res.ret [(V.sl 1 x1 x1b),(V.agg [(V.int .u8 5),(V.int .i32 0)])],h1)))
 else
 (if (x2_0 == 2) then
 some (Res.ret [(V.sl 1 x1 x1b),(V.agg [(V.int .u8 4),(V.int .i32 0)])],h1)
 else
 some (Res.ret [(V.sl 1 x1 x1b),(V.agg [(V.int .u8 5),(V.int .i32 0)])],h1)))))))) (fun z2 h1=>some (Res.pan z2,h1)))
 else
 (if (x2_0 == 1) then
 (bd (app 21 1 (S.own 21 1 []) x1) fun l20 =>
 (bd (app 21 1 (S.own 21 1 l20) [[(V.int .i32 x2_1)]]) fun l21 =>
 some (Res.ret [(V.sl 1 l21 false),(V.agg [(V.int .u8 1),(V.int .i32 0)])],h)))
 else
 (if (x2_0 == 2) then
 (if (decide (((x1).length:Int) > 0)) then
 (bd (QZ (V.sl 1 x1 x1b)) fun n22 =>
 (bdS (nv (V.int .i64 (IntKind.i64.wrap (((x1).length:Int) - 1)))) fun n23 =>
 (bd (Z4 1 0 n23 (none:Option Nat) true (V.sl 1 x1 x1b)) fun v24 =>
 (bdS (ZR h v24) fun p25 =>
 (if (27=27/\(p25.1=1\/(p25.2).isEmpty=true)) then
 (bd (app 21 1 (S.own 21 1 []) p25.2) fun l26 =>
 (bdS (nv (V.int .i64 (IntKind.i64.wrap (((x1).length:Int) - 1)))) fun n27 =>
 (bd (ZE 1 n27 (V.sl 1 x1 x1b)) fun p28 =>
 (bd3 (zu h p28) fun cs30 m29 o31=>if (o31+1<=m29/\0 < 1) then
 (bd (cs30)[o31]? fun v32 =>
 (bd (Qo prog 35 [(0,(V.int .u8 2)),(1,v32)]) fun cs33 =>
 (if (cs33).length=2 then
 (if ((cs33).length<=2) then
 some (Res.ret [(V.sl 1 l26 false),(V.agg (((setR [(V.int .u8 0),(V.int .i32 0)] 0 cs33)).drop 0 |>.take 2))],h) else none) else none))) else none)))) else none)))))
 else
 (if (x2_0 == 2) then
 some (Res.ret [(V.sl 1 x1 x1b),(V.agg [(V.int .u8 4),(V.int .i32 0)])],h)
 else
 some (Res.ret [(V.sl 1 x1 x1b),(V.agg [(V.int .u8 5),(V.int .i32 0)])],h)))
 else
 (if (x2_0 == 2) then
 some (Res.ret [(V.sl 1 x1 x1b),(V.agg [(V.int .u8 4),(V.int .i32 0)])],h)
 else
 some (Res.ret [(V.sl 1 x1 x1b),(V.agg [(V.int .u8 5),(V.int .i32 0)])],h)))))
theorem zo9(n:Nat)(x0:Int)(x1:List (List V))(x1b:Bool)(x2_0:Int)(x2_1:Int)(h:zd):call (n+1) 92 [(V.int .i64 x0),(V.sl 1 x1 x1b),(V.agg [(V.int .u8 x2_0),(V.int .i32 x2_1)])] h=zrD n x0 x1 x1b x2_0 x2_1 h:=by kernel_rfl
noncomputable def zrE(n:Nat)(x0:Int)(x1:List (List V))(x1b:Bool)(x2_0:Int)(x2_1:Int)(h:zd):Option (Res×zd) :=
 (cl (call n 129 [(V.int .i64 x0)] h) (fun r0 h1 =>
 (Zr r0 fun v3 =>
 (bd (bop prog .geq 3 (V.int .i64 ((x1).length:Int)) v3) fun v4 =>
 (if (decide (x2_0 < 1)) then
 some (Res.ret [(V.sl 1 x1 x1b),(V.agg [(V.int .u8 5),(V.int .i32 0)])],h1)
 else
 (if (decide (x2_0 > 4)) then
 some (Res.ret [(V.sl 1 x1 x1b),(V.agg [(V.int .u8 5),(V.int .i32 0)])],h1)
 else
 (if (decide (x2_0<=2)) then
 (bv v4 fun b5=>if b5 then
 some (Res.ret [(V.sl 1 x1 x1b),(V.agg [(V.int .u8 3),(V.int .i32 0)])],h1)
 else
 (if (decide (x2_0 ≥ 3)) then
 (if (((x1).length:Int) == 0) then
 some (Res.ret [(V.sl 1 x1 x1b),(V.agg [(V.int .u8 4),(V.int .i32 0)])],h1)
 else
 (if (x2_0 == 1) then
 (bd (app 21 1 (S.own 21 1 []) [[(V.int .i32 x2_1)]]) fun l6 =>
 (bd (app 21 1 (S.own 21 1 l6) x1) fun l7 =>
 some (Res.ret [(V.sl 1 l7 false),(V.agg [(V.int .u8 1),(V.int .i32 0)])],h1)))
 else
 (if (x2_0 == 2) then
 (bd (app 21 1 (S.own 21 1 []) x1) fun l8 =>
 (bd (app 21 1 (S.own 21 1 l8) [[(V.int .i32 x2_1)]]) fun l9 =>
 some (Res.ret [(V.sl 1 l9 false),(V.agg [(V.int .u8 1),(V.int .i32 0)])],h1)))
 else
 (if (x2_0 == 3) then
 (bd (QZ (V.sl 1 x1 x1b)) fun n10 =>
 (bd (Z4 1 1 n10 (none:Option Nat) true (V.sl 1 x1 x1b)) fun v11 =>
 (bdS (ZR h1 v11) fun p12 =>
 (if (27=27/\(p12.1=1\/(p12.2).isEmpty=true)) then
 (bd (app 21 1 (S.own 21 1 []) p12.2) fun l13 =>
 (bd (ZE 1 0 (V.sl 1 x1 x1b)) fun p14 =>
 (bd3 (zu h1 p14) fun cs16 m15 o17=>if (o17+1<=m15/\0 < 1) then
 (bd (cs16)[o17]? fun v18 =>
 (bd (Qo prog 35 [(0,(V.int .u8 2)),(1,v18)]) fun cs19 =>
 (if (cs19).length=2 then
 (if ((cs19).length<=2) then
 some (Res.ret [(V.sl 1 l13 false),(V.agg (((setR [(V.int .u8 0),(V.int .i32 0)] 0 cs19)).drop 0 |>.take 2))],h1) else none) else none))) else none))) else none))))
 else
 (bd (QZ (V.sl 1 x1 x1b)) fun n20 =>
 (bdS (nv (V.int .i64 (IntKind.i64.wrap (((x1).length:Int) - 1)))) fun n21 =>
 (bd (Z4 1 0 n21 (none:Option Nat) true (V.sl 1 x1 x1b)) fun v22 =>
 (bdS (ZR h1 v22) fun p23 =>
 (if (27=27/\(p23.1=1\/(p23.2).isEmpty=true)) then
 (bd (app 21 1 (S.own 21 1 []) p23.2) fun l24 =>
 (bdS (nv (V.int .i64 (IntKind.i64.wrap (((x1).length:Int) - 1)))) fun n25 =>
 (bd (ZE 1 n25 (V.sl 1 x1 x1b)) fun p26 =>
 (bd3 (zu h1 p26) fun cs28 m27 o29=>if (o29+1<=m27/\0 < 1) then
 (bd (cs28)[o29]? fun v30 =>
 (bd (Qo prog 35 [(0,(V.int .u8 2)),(1,v30)]) fun cs31 =>
 (if (cs31).length=2 then
 (if ((cs31).length<=2) then
 some (Res.ret [(V.sl 1 l24 false),(V.agg (((setR [(V.int .u8 0),(V.int .i32 0)] 0 cs31)).drop 0 |>.take 2))],h1) else none) else none))) else none)))) else none)))))))))
 else
 (if (x2_0 == 1) then
 (bd (app 21 1 (S.own 21 1 []) [[(V.int .i32 x2_1)]]) fun l32 =>
 (bd (app 21 1 (S.own 21 1 l32) x1) fun l33 =>
 some (Res.ret [(V.sl 1 l33 false),(V.agg [(V.int .u8 1),(V.int .i32 0)])],h1)))
 else
 (if (x2_0 == 2) then
 (bd (app 21 1 (S.own 21 1 []) x1) fun l34 =>
 (bd (app 21 1 (S.own 21 1 l34) [[(V.int .i32 x2_1)]]) fun l35 =>
 some (Res.ret [(V.sl 1 l35 false),(V.agg [(V.int .u8 1),(V.int .i32 0)])],h1)))
 else
 (if (x2_0 == 3) then
 (bd (QZ (V.sl 1 x1 x1b)) fun n36 =>
 (bd (Z4 1 1 n36 (none:Option Nat) true (V.sl 1 x1 x1b)) fun v37 =>
 (bdS (ZR h1 v37) fun p38 =>
 (if (27=27/\(p38.1=1\/(p38.2).isEmpty=true)) then
 (bd (app 21 1 (S.own 21 1 []) p38.2) fun l39 =>
 (bd (ZE 1 0 (V.sl 1 x1 x1b)) fun p40 =>
 (bd3 (zu h1 p40) fun cs42 m41 o43=>if (o43+1<=m41/\0 < 1) then
 (bd (cs42)[o43]? fun v44 =>
 (bd (Qo prog 35 [(0,(V.int .u8 2)),(1,v44)]) fun cs45 =>
 (if (cs45).length=2 then
 (if ((cs45).length<=2) then
 some (Res.ret [(V.sl 1 l39 false),(V.agg (((setR [(V.int .u8 0),(V.int .i32 0)] 0 cs45)).drop 0 |>.take 2))],h1) else none) else none))) else none))) else none))))
 else
 (bd (QZ (V.sl 1 x1 x1b)) fun n46 =>
 (bdS (nv (V.int .i64 (IntKind.i64.wrap (((x1).length:Int) - 1)))) fun n47 =>
 (bd (Z4 1 0 n47 (none:Option Nat) true (V.sl 1 x1 x1b)) fun v48 =>
 (bdS (ZR h1 v48) fun p49 =>
 (if (27=27/\(p49.1=1\/(p49.2).isEmpty=true)) then
 (bd (app 21 1 (S.own 21 1 []) p49.2) fun l50 =>
 (bdS (nv (V.int .i64 (IntKind.i64.wrap (((x1).length:Int) - 1)))) fun n51 =>
 (bd (ZE 1 n51 (V.sl 1 x1 x1b)) fun p52 =>
 (bd3 (zu h1 p52) fun cs54 m53 o55=>if (o55+1<=m53/\0 < 1) then
 (bd (cs54)[o55]? fun v56 =>
 (bd (Qo prog 35 [(0,(V.int .u8 2)),(1,v56)]) fun cs57 =>
 (if (cs57).length=2 then
 (if ((cs57).length<=2) then
 some (Res.ret [(V.sl 1 l50 false),(V.agg (((setR [(V.int .u8 0),(V.int .i32 0)] 0 cs57)).drop 0 |>.take 2))],h1) else none) else none))) else none)))) else none))))))))))
 else
 (if (decide (x2_0 ≥ 3)) then
 (if (((x1).length:Int) == 0) then
 some (Res.ret [(V.sl 1 x1 x1b),(V.agg [(V.int .u8 4),(V.int .i32 0)])],h1)
 else
 (if (x2_0 == 1) then
 (bd (app 21 1 (S.own 21 1 []) [[(V.int .i32 x2_1)]]) fun l58 =>
 (bd (app 21 1 (S.own 21 1 l58) x1) fun l59 =>
 some (Res.ret [(V.sl 1 l59 false),(V.agg [(V.int .u8 1),(V.int .i32 0)])],h1)))
 else
 (if (x2_0 == 2) then
 (bd (app 21 1 (S.own 21 1 []) x1) fun l60 =>
 (bd (app 21 1 (S.own 21 1 l60) [[(V.int .i32 x2_1)]]) fun l61 =>
 some (Res.ret [(V.sl 1 l61 false),(V.agg [(V.int .u8 1),(V.int .i32 0)])],h1)))
 else
 (if (x2_0 == 3) then
 (bd (QZ (V.sl 1 x1 x1b)) fun n62 =>
 (bd (Z4 1 1 n62 (none:Option Nat) true (V.sl 1 x1 x1b)) fun v63 =>
 (bdS (ZR h1 v63) fun p64 =>
 (if (27=27/\(p64.1=1\/(p64.2).isEmpty=true)) then
 (bd (app 21 1 (S.own 21 1 []) p64.2) fun l65 =>
 (bd (ZE 1 0 (V.sl 1 x1 x1b)) fun p66 =>
 (bd3 (zu h1 p66) fun cs68 m67 o69=>if (o69+1<=m67/\0 < 1) then
 (bd (cs68)[o69]? fun v70 =>
 (bd (Qo prog 35 [(0,(V.int .u8 2)),(1,v70)]) fun cs71 =>
 (if (cs71).length=2 then
 (if ((cs71).length<=2) then
 some (Res.ret [(V.sl 1 l65 false),(V.agg (((setR [(V.int .u8 0),(V.int .i32 0)] 0 cs71)).drop 0 |>.take 2))],h1) else none) else none))) else none))) else none))))
 else
 (bd (QZ (V.sl 1 x1 x1b)) fun n72 =>
 (bdS (nv (V.int .i64 (IntKind.i64.wrap (((x1).length:Int) - 1)))) fun n73 =>
 (bd (Z4 1 0 n73 (none:Option Nat) true (V.sl 1 x1 x1b)) fun v74 =>
 (bdS (ZR h1 v74) fun p75 =>
 (if (27=27/\(p75.1=1\/(p75.2).isEmpty=true)) then
 (bd (app 21 1 (S.own 21 1 []) p75.2) fun l76 =>
 (bdS (nv (V.int .i64 (IntKind.i64.wrap (((x1).length:Int) - 1)))) fun n77 =>
 (bd (ZE 1 n77 (V.sl 1 x1 x1b)) fun p78 =>
 (bd3 (zu h1 p78) fun cs80 m79 o81=>if (o81+1<=m79/\0 < 1) then
 (bd (cs80)[o81]? fun v82 =>
 (bd (Qo prog 35 [(0,(V.int .u8 2)),(1,v82)]) fun cs83 =>
 (if (cs83).length=2 then
 (if ((cs83).length<=2) then
 some (Res.ret [(V.sl 1 l76 false),(V.agg (((setR [(V.int .u8 0),(V.int .i32 0)] 0 cs83)).drop 0 |>.take 2))],h1) else none) else none))) else none)))) else none)))))))))
 else
 (if (x2_0 == 1) then
 (bd (app 21 1 (S.own 21 1 []) [[(V.int .i32 x2_1)]]) fun l84 =>
 (bd (app 21 1 (S.own 21 1 l84) x1) fun l85 =>
 some (Res.ret [(V.sl 1 l85 false),(V.agg [(V.int .u8 1),(V.int .i32 0)])],h1)))
 else
 (if (x2_0 == 2) then
 (bd (app 21 1 (S.own 21 1 []) x1) fun l86 =>
 (bd (app 21 1 (S.own 21 1 l86) [[(V.int .i32 x2_1)]]) fun l87 =>
 some (Res.ret [(V.sl 1 l87 false),(V.agg [(V.int .u8 1),(V.int .i32 0)])],h1)))
 else
 (if (x2_0 == 3) then
 (bd (QZ (V.sl 1 x1 x1b)) fun n88 =>
 (bd (Z4 1 1 n88 (none:Option Nat) true (V.sl 1 x1 x1b)) fun v89 =>
 (bdS (ZR h1 v89) fun p90 =>
 (if (27=27/\(p90.1=1\/(p90.2).isEmpty=true)) then
 (bd (app 21 1 (S.own 21 1 []) p90.2) fun l91 =>
 (bd (ZE 1 0 (V.sl 1 x1 x1b)) fun p92 =>
 (bd3 (zu h1 p92) fun cs94 m93 o95=>if (o95+1<=m93/\0 < 1) then
 (bd (cs94)[o95]? fun v96 =>
 (bd (Qo prog 35 [(0,(V.int .u8 2)),(1,v96)]) fun cs97 =>
 (if (cs97).length=2 then
 (if ((cs97).length<=2) then
 some (Res.ret [(V.sl 1 l91 false),(V.agg (((setR [(V.int .u8 0),(V.int .i32 0)] 0 cs97)).drop 0 |>.take 2))],h1) else none) else none))) else none))) else none))))
 else
 (bd (QZ (V.sl 1 x1 x1b)) fun n98 =>
 (bdS (nv (V.int .i64 (IntKind.i64.wrap (((x1).length:Int) - 1)))) fun n99 =>
 (bd (Z4 1 0 n99 (none:Option Nat) true (V.sl 1 x1 x1b)) fun v100 =>
 (bdS (ZR h1 v100) fun p101 =>
 (if (27=27/\(p101.1=1\/(p101.2).isEmpty=true)) then
 (bd (app 21 1 (S.own 21 1 []) p101.2) fun l102 =>
 (bdS (nv (V.int .i64 (IntKind.i64.wrap (((x1).length:Int) - 1)))) fun n103 =>
 (bd (ZE 1 n103 (V.sl 1 x1 x1b)) fun p104 =>
 (bd3 (zu h1 p104) fun cs106 m105 o107=>if (o107+1<=m105/\0 < 1) then
 (bd (cs106)[o107]? fun v108 =>
 (bd (Qo prog 35 [(0,(V.int .u8 2)),(1,v108)]) fun cs109 =>
 (if (cs109).length=2 then
 (if ((cs109).length<=2) then
 some (Res.ret [(V.sl 1 l102 false),(V.agg (((setR [(V.int .u8 0),(V.int .i32 0)] 0 cs109)).drop 0 |>.take 2))],h1) else none) else none))) else none)))) else none))))))))))))))) (fun z2 h1=>some (Res.pan z2,h1)))
theorem zpa(n:Nat)(x0:Int)(x1:List (List V))(x1b:Bool)(x2_0:Int)(x2_1:Int)(h:zd):call (n+1) 93 [(V.int .i64 x0),(V.sl 1 x1 x1b),(V.agg [(V.int .u8 x2_0),(V.int .i32 x2_1)])] h=zrE n x0 x1 x1b x2_0 x2_1 h:=by kernel_rfl
noncomputable def zbX(n:Nat)(x0:Int)(x1:Int)(x2:List (List V))(x2b:Bool)(x3_0:Int)(x3_1:Int):Option (Res×zd) :=
 (if (x0 == 1) then
 (cl (call n 92 [(V.int .i64 x1),(V.sl 1 x2 x2b),(V.agg [(V.int .u8 x3_0),(V.int .i32 x3_1)])] []) (fun r0 h1 =>
 (bd (r0)[0]? fun v3 =>
 (bd (r0)[1]? fun v4 =>
 (if ((V.cells v4)).length=2 then
 (if (((V.cells v4)).length<=2) then
 (if ((((setR [(V.int .u8 5),(V.int .i32 0)] 0 (V.cells v4))).drop 0 |>.take 2)).length=2 then
 (if (((((setR [(V.int .u8 5),(V.int .i32 0)] 0 (V.cells v4))).drop 0 |>.take 2)).length<=2) then
 some (Res.ret [v3,(V.agg (((setR [(V.int .u8 0),(V.int .i32 0)] 0 (((setR [(V.int .u8 5),(V.int .i32 0)] 0 (V.cells v4))).drop 0 |>.take 2))).drop 0 |>.take 2))],h1) else none) else none) else none) else none)))) (fun z2 h1=>some (Res.pan z2,h1)))
 else
 (if (x0 == 2) then
 (cl (call n 93 [(V.int .i64 x1),(V.sl 1 x2 x2b),(V.agg [(V.int .u8 x3_0),(V.int .i32 x3_1)])] []) (fun r5 h6 =>
 (bd (r5)[0]? fun v8 =>
 (bd (r5)[1]? fun v9 =>
 (if ((V.cells v9)).length=2 then
 (if (((V.cells v9)).length<=2) then
 (if ((((setR [(V.int .u8 5),(V.int .i32 0)] 0 (V.cells v9))).drop 0 |>.take 2)).length=2 then
 (if (((((setR [(V.int .u8 5),(V.int .i32 0)] 0 (V.cells v9))).drop 0 |>.take 2)).length<=2) then
 some (Res.ret [v8,(V.agg (((setR [(V.int .u8 0),(V.int .i32 0)] 0 (((setR [(V.int .u8 5),(V.int .i32 0)] 0 (V.cells v9))).drop 0 |>.take 2))).drop 0 |>.take 2))],h6) else none) else none) else none) else none)))) (fun z7 h6=>some (Res.pan z7,h6)))
 else
 (if (x0 == 3) then
 (cl (call n 94 [(V.int .i64 x1),(V.sl 1 x2 x2b),(V.agg [(V.int .u8 x3_0),(V.int .i32 x3_1)])] []) (fun r10 h11 =>
 (bd (r10)[0]? fun v13 =>
 (bd (r10)[1]? fun v14 =>
 (if ((V.cells v14)).length=2 then
 (if (((V.cells v14)).length<=2) then
 (if ((((setR [(V.int .u8 5),(V.int .i32 0)] 0 (V.cells v14))).drop 0 |>.take 2)).length=2 then
 (if (((((setR [(V.int .u8 5),(V.int .i32 0)] 0 (V.cells v14))).drop 0 |>.take 2)).length<=2) then
 some (Res.ret [v13,(V.agg (((setR [(V.int .u8 0),(V.int .i32 0)] 0 (((setR [(V.int .u8 5),(V.int .i32 0)] 0 (V.cells v14))).drop 0 |>.take 2))).drop 0 |>.take 2))],h11) else none) else none) else none) else none)))) (fun z12 h11=>some (Res.pan z12,h11)))
 else
 some (Res.ret [(V.sl 1 x2 x2b),(V.agg [(V.int .u8 5),(V.int .i32 0)])],[]))))
theorem zhU(n:Nat)(x0:Int)(x1:Int)(x2:List (List V))(x2b:Bool)(x3_0:Int)(x3_1:Int)(h:zd):call (n+1) 63 [(V.int .u8 x0),(V.int .i64 x1),(V.sl 1 x2 x2b),(V.agg [(V.int .u8 x3_0),(V.int .i32 x3_1)])] h=gcw [(V.int .u8 x0),(V.int .i64 x1),(V.sl 1 x2 x2b),(V.agg [(V.int .u8 x3_0),(V.int .i32 x3_1)])] (zbX n x0 x1 x2 x2b x3_0 x3_1) h:=by kernel_rfl
noncomputable def WA(n:Nat)(x0:Int)(x1:Int)(x3:List (List V))(x3b:Bool)(v5:V)(st7:List V)(hh8:zd)(next9:List V->zd->Option (Res×zd)):Option (Res×zd) :=
 (bd (ZR hh8 v5) fun p10 =>
 (bd (bop prog .lss 3 (gv st7 4) (V.int .i64 ((p10.2).length:Int))) fun v11 =>
 (bv v11 fun b12=>if b12 then
 (bdS (nv (gv st7 4)) fun n13 =>
 (bd (ZE 1 n13 v5) fun p14 =>
 (bd3 (zu hh8 p14) fun cs16 m15 o17=>if (o17+1<=m15/\0 < 1) then
 (bd (cs16)[o17]? fun v18 =>
 (bdS (nv v18) fun n19 =>
 (bd (ZE 2 n19 (V.sl 2 x3 x3b)) fun p20 =>
 (bd3 (zu hh8 p20) fun cs22 m21 o23=>if (o23+2<=m21/\0 < 2) then
 (cl (call n 63 [(V.int .u8 x0),(V.int .i64 x1),(gv st7 0),(V.agg ((cs22).drop o23 |>.take 2))] hh8) (fun r24 h25 =>
 (bd (r24)[0]? fun v27 =>
 (bd (r24)[1]? fun v28 =>
 (if ((V.cells v28)).length=2 then
 (if (((V.cells v28)).length<=2) then
 (bdS (nv (gv st7 4)) fun n29 =>
 (bd (ZE 1 n29 v5) fun p30 =>
 (bd3 (zu h25 p30) fun cs32 m31 o33=>if (o33+1<=m31/\0 < 1) then
 (bd (cs32)[o33]? fun v34 =>
 (bdS (nv v34) fun n35 =>
 (if (2=2/\n35 < ((lsl (gv st7 3))).length/\(some 48:Option Nat)≠some 10) then
 (if ((((setR [(V.int .u8 0),(V.int .i32 0)] 0 (V.cells v28))).drop 0 |>.take 2)).length=2 then
 (if (2=2/\0 < 2/\0+((((setR [(V.int .u8 0),(V.int .i32 0)] 0 (V.cells v28))).drop 0 |>.take 2)).length<=2) then
 (bd ((lsl (gv st7 3)))[n35]? fun es36 =>
 (bd (bop prog .add 3 (gv st7 4) (V.int .i64 1)) fun v37 =>
 (next9 [v27,(V.sl 1 (lsl (gv st7 1)) false),(V.sl 2 (lsl (gv st7 2)) false),(V.sl 2 (((lsl (gv st7 3))).set n35 (setR es36 0 (((setR [(V.int .u8 0),(V.int .i32 0)] 0 (V.cells v28))).drop 0 |>.take 2))) false),v37,(V.bool false)] h25))) else none) else none) else none))) else none))) else none) else none)))) (fun z26 h25=>some (Res.pan z26,h25))) else none)))) else none)))
 else
 some (Res.ret [(gv st7 0),(V.sl 2 (lsl (gv st7 3)) false)],hh8))))
noncomputable def zbY(n:Nat)(x0:Int)(x1:Int)(x2:List (List V))(x2b:Bool)(x3:List (List V))(x3b:Bool):Option (Res×zd) :=
 (bdS (nv (V.int .i64 ((x3).length:Int))) fun n0 =>
 (bdS (nv (V.int .i64 ((x3).length:Int))) fun n1 =>
 (if (n0<=n1/\n1 < lim/\2=2) then
 (cl (call n 64 [(V.int .u8 x0),(V.sl 2 x3 x3b)] []) (fun r2 h3 =>
 (Zr r2 fun v5 =>
 (zR n (WA n x0 x1 x3 x3b v5) [(V.sl 1 x2 x2b),(V.sl 1 [] false),(V.sl 2 [] false),(V.sl 2 (List.replicate n0 [(V.int .u8 0),(V.int .i32 0)]) false),(V.int .i64 0),(V.bool false)] h3))) (fun z4 h3=>some (Res.pan z4,h3))) else none)))
theorem zhV(n:Nat)(x0:Int)(x1:Int)(x2:List (List V))(x2b:Bool)(x3:List (List V))(x3b:Bool)(h:zd):call (n+1) 22 [(V.int .u8 x0),(V.int .i64 x1),(V.sl 1 x2 x2b),(V.sl 2 x3 x3b)] h=gcw [(V.int .u8 x0),(V.int .i64 x1),(V.sl 1 x2 x2b),(V.sl 2 x3 x3b)] (zbY n x0 x1 x2 x2b x3 x3b) h:=by kernel_rfl
noncomputable def Wi(n:Nat)(x0:List (List V))(x0b:Bool)(st1:List V)(hh2:zd)(next3:List V->zd->Option (Res×zd)):Option (Res×zd) :=
 (bd (bop prog .lss 3 (gv st1 2) (V.int .i64 ((x0).length:Int))) fun v4 =>
 (bv v4 fun b5=>if b5 then
 (if (decide ((((lsl (gv st1 1))).length:Int) < 20)) then
 (bdS (nv (gv st1 2)) fun n6 =>
 (bd (ZE 1 n6 (V.sl 1 x0 x0b)) fun p7 =>
 (bd ((esP p7))[0]? fun v8 =>
 (bd (bop prog .add 3 (gv st1 2) (V.int .i64 1)) fun v9 =>
 (bdS (nv (gv st1 2)) fun n10 =>
 (bd (ZE 1 n10 (V.sl 1 x0 x0b)) fun p11 =>
 (bd ((esP p11))[0]? fun v12 =>
 (bd (bop prog .rem 5 v12 (V.int .u8 9)) fun v13 =>
 (bd (cvt prog 5 3 v13) fun v14 =>
 (bd (bop prog .add 3 v9 v14) fun v15 =>
 (bd (qO [(some (V.int .i64 ((x0).length:Int))),(Kh hh2 v15)]) fun a16=>bd (mm false a16) fun v17 =>
 (bd (QZ (V.sl 1 x0 x0b)) fun n18 =>
 (bdS (nv (gv st1 2)) fun n19 =>
 (bdS (nv v17) fun n20 =>
 (bd (Z4 1 n19 n20 (none:Option Nat) true (V.sl 1 x0 x0b)) fun v21 =>
 (clH (call n 14 [v21,(V.int .u8 5)] hh2) fun r22 h23 =>
 (Zr r22 fun v25 =>
 (bd (Qo prog 43 [(0,v8),(2,v25)]) fun cs26 =>
 (if (cs26).length=3 then
 (if ((cs26).length<=3) then
 (bd ((setR [(V.int .u8 0),(V.sl 0 [] true),(V.sl 0 [] true)] 0 cs26))[1]? fun v27 =>
 (bdS (nv (gv st1 2)) fun n28 =>
 (bd (ZE 1 n28 (V.sl 1 x0 x0b)) fun p29 =>
 (bd ((esP p29))[0]? fun v30 =>
 (bd (JY prog 22 1 [(0,v30)]) fun p31 =>
 (bd (app 5 1 (S.v v27) p31.2) fun l32 =>
 (bd (JY prog 40 1 [(0,(V.agg (((setR (setR [(V.int .u8 0),(V.sl 0 [] true),(V.sl 0 [] true)] 0 cs26) 1 [(V.sl 1 l32 false)])).drop 0 |>.take 3)))]) fun p33 =>
 (bd (app 43 3 (S.own 43 3 (lsl (gv st1 1))) p33.2) fun l34 =>
 (bd (bop prog .add 3 (gv st1 2) (V.int .i64 3)) fun v35 =>
 (next3 [(V.sl 3 (lsl (gv st1 0)) false),(V.sl 3 l34 false),v35] h23)))))))))) else none) else none)))))))))))))))))))
 else
 some (Res.ret [(V.sl 3 (lsl (gv st1 1)) false)],hh2))
 else
 some (Res.ret [(V.sl 3 (lsl (gv st1 1)) false)],hh2)))
noncomputable def zrF(n:Nat)(x0:List (List V))(x0b:Bool)(h:zd):Option (Res×zd) :=
 (zR n (Wi n x0 x0b) [(V.sl 3 [] false),(V.sl 3 [] false),(V.int .i64 0)] h)
theorem zkN(n:Nat)(x0:List (List V))(x0b:Bool)(h:zd):call (n+1) 21 [(V.sl 1 x0 x0b)] h=zrF n x0 x0b h:=by kernel_rfl
noncomputable def JD(n:Nat)(x0:List (List V))(x0b:Bool)(st1:List V)(hh2:zd)(next3:List V->zd->Option (Res×zd)):Option (Res×zd) :=
 (bd (bop prog .lss 3 (gv st1 1) (V.int .i64 ((x0).length:Int))) fun v4 =>
 (bv v4 fun b5=>if b5 then
 (bd (bop prog .leq 3 (gv st1 0) (V.int .i64 1000)) fun v6 =>
 (bv v6 fun b7=>if b7 then
 (bdS (nv (gv st1 1)) fun n8 =>
 (bd (ZE 3 n8 (V.sl 3 x0 x0b)) fun p9 =>
 (bd (ZL 1 p9) fun p10 =>
 (bd3 (zu hh2 p10) fun cs12 m11 o13=>if (o13+1<=m11/\0 < 1) then
 (bd (cs12)[o13]? fun v14 =>
 (bd (ZR hh2 v14) fun p15 =>
 (bdS (nv (gv st1 1)) fun n16 =>
 (bd (ZE 3 n16 (V.sl 3 x0 x0b)) fun p17 =>
 (bd (ZL 2 p17) fun p18 =>
 (bd3 (zu hh2 p18) fun cs20 m19 o21=>if (o21+1<=m19/\0 < 1) then
 (bd (cs20)[o21]? fun v22 =>
 (bd (ZR hh2 v22) fun p23 =>
 (bd (bop prog .add 3 (gv st1 0) (V.int .i64 (IntKind.i64.wrap ((IntKind.i64.wrap (2+((p15.2).length:Int)))+((p23.2).length:Int))))) fun v24 =>
 (bd (bop prog .add 3 (gv st1 1) (V.int .i64 1)) fun v25 =>
 (next3 [v24,v25] hh2))))) else none)))))) else none))))
 else
 some (Res.ret [(gv st1 0)],hh2)))
 else
 some (Res.ret [(gv st1 0)],hh2)))
noncomputable def zrG(n:Nat)(x0:List (List V))(x0b:Bool)(h:zd):Option (Res×zd) :=
 (zR n (JD n x0 x0b) [(V.int .i64 0),(V.int .i64 0)] h)
theorem zkO(n:Nat)(x0:List (List V))(x0b:Bool)(h:zd):call (n+1) 25 [(V.sl 3 x0 x0b)] h=zrG n x0 x0b h:=by kernel_rfl
end Go.Proofs.Tryz
namespace Go.Proofs.Tryz
open Go.L Go.Rp Go.Sk
set_option maxRecDepth 100000
theorem zcy(n:Nat)(m:Int)(H:zd):call (n+1) 129 [.int .i64 m] H=some (.ret [.int .i64 (max 0 (min m 1000))],H):=by
 rw[ziR];unfold zp2;rw[zjE]
theorem znJ{s:List Int}{x:Int}:(vL (s++[x]))[s.length]?=some [.int .i32 x]:=by simp[vL,Xc]
theorem zkP{s:List Int}{x:Int}(hl:s.length+2 < lim):IntKind.i64.wrap (((vL (s++[x])).length:Int) - 1)=(s.length:Int):=by
 unfold lim at hl;rw[zlT,zE,ZM,w64 (by omega) (by omega)];omega
theorem zpb (n : Nat) (m : Int) (s : List Int) (sb : Bool) (o : O) (H : zd) (hl : s.length + 2 < lim) :
    ∃ sb',call (n+2) 92 [.int .i64 m,.sl 1 (vL s) sb,.agg [.int .u8 o.k,.int .i32 o.v]] H=some (.ret [.sl 1 (vL (Xe (max 0 (min m 1000)) o.k o.v s).2) sb',.agg (R.w (zeI (max 0 (min m 1000)) o s))],H):=by
 rw[show n+2=(n+1)+1 from rfl,zo9];unfold zrD zeI;by_cases k1:o.k=1
 . rw[if_pos (by simp[k1]),zcy,zM,zx,Z8,za,zm,zlT];by_cases h2:max 0 (min m 1000)<=(s.length:Int)
   . have ht:Xe (max 0 (min m 1000)) o.k o.v s=((3,0),s):=by unfold Xe;rw[if_pos k1,if_neg (by omega)]
     rw[if_pos (decide_eq_true h2),ht];exact⟨sb,rfl⟩
   . have ht:Xe (max 0 (min m 1000)) o.k o.v s=((1,0),s++[o.v]):=by unfold Xe;rw[if_pos k1,if_pos (by omega)]
     rw[if_neg (by intro e;exact h2 (of_decide_eq_true e)),if_pos (by simp[k1]),qz _ (by omega),za];rw[show [[V.int IntKind.i32 o.v]]=vL [o.v] from rfl,zek _ _ (by simp;omega),za,ht];exact⟨false,rfl⟩
 rw[if_neg (by simp[k1]),if_neg (by simp[k1])];by_cases k2:o.k=2
 . rw[if_pos (by simp[k2])];rcases ZD s with rfl|⟨s0,x,rfl⟩
   . have ht:Xe (max 0 (min m 1000)) o.k o.v []=((4,0),[]):=by unfold Xe;rw[if_neg k1,if_pos k2];rfl
     rw[if_neg (by simp[vL]),if_pos (by simp[k2]),ht];exact⟨sb,rfl⟩
   . rw[XA] at hl ⊢;have ht:Xe (max 0 (min m 1000)) o.k o.v (s0++[x])=((2,x),s0):=by unfold Xe;rw[if_neg k1,if_pos k2];simp
     have hl0:s0.length+2 < lim:=by simp at hl;omega
     rw[if_pos (by simp[vL]),YW,za,zkP hl0,Za,zy,zjD (.inl rfl) (Ze _) (by simp[vL]),za,ZW,zy,if_pos (by first|exact⟨rfl,.inl rfl⟩|exact⟨trivial,.inl rfl⟩)];simp only[zO];rw[znh,List.take_left' rfl,qz _ (by omega),za,zy,Xb znJ,za,Zl,zn,if_pos (by decide)];simp only[zb,za,za4];rw[ht];exact⟨false,rfl⟩
 . have ht:Xe (max 0 (min m 1000)) o.k o.v s=((5,0),s):=by unfold Xe;rw[if_neg k1,if_neg k2]
   rw[if_neg (by simp[k2]),if_neg (by simp[k2]),ht];exact⟨sb,rfl⟩
theorem zpc (n : Nat) (m : Int) (s : List Int) (sb : Bool) (o : O) (H : zd) (hl : s.length + 2 < lim) :
    ∃ sb',call (n+2) 93 [.int .i64 m,.sl 1 (vL s) sb,.agg [.int .u8 o.k,.int .i32 o.v]] H=some (.ret [.sl 1 (vL (ZF (max 0 (min m 1000)) o.k o.v s).2) sb',.agg (R.w (zeK (max 0 (min m 1000)) o s))],H):=by
 rw[show n+2=(n+1)+1 from rfl,zpa];unfold zrE zeK;rw[zcy,zM,zx,Z8,za];generalize hmo:max 0 (min m 1000)=mo;by_cases hlo:o.k < 1
 . have ht:ZF mo o.k o.v s=((5,0),s):=by unfold ZF;rw[if_neg (by omega),if_neg (by omega),if_neg (by omega),if_neg (by omega)]
   rw[if_pos (decide_eq_true hlo),ht];exact⟨sb,rfl⟩
 rw[if_neg (by simpa using hlo)];by_cases hhi:o.k > 4
 . have ht:ZF mo o.k o.v s=((5,0),s):=by unfold ZF;rw[if_neg (by omega),if_neg (by omega),if_neg (by omega),if_neg (by omega)]
   rw[if_pos (decide_eq_true hhi),ht];exact⟨sb,rfl⟩
 rw[if_neg (by simpa using hhi)];by_cases h2:o.k<=2
 . rw[if_pos (decide_eq_true h2),zm,zlT];by_cases hf:mo<=(s.length:Int)
   . have ht:ZF mo o.k o.v s=((3,0),s):=by
       unfold ZF;by_cases k1:o.k=1
       . rw[if_pos k1,if_neg (by omega)]
       . rw[if_neg k1,if_pos (by omega),if_neg (by omega)]
     rw[if_pos (decide_eq_true hf),ht];exact⟨sb,rfl⟩
   . rw[if_neg (by intro e;exact hf (of_decide_eq_true e)),if_neg (by simp;omega)];by_cases k1:o.k=1
     . have ht:ZF mo o.k o.v s=((1,0),o.v :: s):=by unfold ZF;rw[if_pos k1,if_pos (by omega)]
       rw[if_pos (by simp[k1]),show [[V.int IntKind.i32 o.v]]=vL [o.v] from rfl,qz _ (by simp;omega),za,zek _ _ (by simp;omega),za,ht];exact⟨false,rfl⟩
     . have k2:o.k=2:=by omega
       have ht:ZF mo o.k o.v s=((1,0),s++[o.v]):=by unfold ZF;rw[if_neg k1,if_pos k2,if_pos (by omega)]
       rw[if_neg (by simp[k1]),if_pos (by simp[k2]),qz _ (by omega),za,show [[V.int IntKind.i32 o.v]]=vL [o.v] from rfl,zek _ _ (by simp;omega),za,ht];exact⟨false,rfl⟩
 rw[if_neg (by simpa using h2),if_pos (by simp;omega)];by_cases k3:o.k=3
 . cases s with
   | nil =>
     have ht:ZF mo o.k o.v []=((4,0),[]):=by unfold ZF;rw[if_neg (by omega),if_neg (by omega),if_pos k3]
     rw[if_pos (by rfl),ht];exact⟨sb,rfl⟩
   | cons x r =>
     have ht:ZF mo o.k o.v (x :: r)=((2,x),r):=by unfold ZF;rw[if_neg (by omega),if_neg (by omega),if_pos k3]
     have hxv:(vL (x :: r))[0]?=some [.int .i32 x]:=rfl;rw[if_neg (by simp[vL];omega),if_neg (by simp[k3]),if_neg (by simp[k3]),if_pos (by simp[k3]),YW,za,zjD (.inl rfl) (by simp[vL]) (zl _),za,ZW,zy,if_pos (by first|exact⟨rfl,.inl rfl⟩|exact⟨trivial,.inl rfl⟩)];simp only[XJ];rw[zsL,qz _ (by simp at hl ⊢;omega),za,Xb hxv,za,Zl,zn,if_pos (by decide)];simp only[zb,za,za4];rw[ht];exact⟨false,rfl⟩
 . have k4:o.k=4:=by omega
   rcases ZD s with rfl|⟨s0,x,rfl⟩
   . have ht:ZF mo o.k o.v []=((4,0),[]):=by unfold ZF;rw[if_neg (by omega),if_neg (by omega),if_neg k3,if_pos k4];rfl
     rw[if_pos (by rfl),ht];exact⟨sb,rfl⟩
   . rw[XA] at hl ⊢;have ht:ZF mo o.k o.v (s0++[x])=((2,x),s0):=by unfold ZF;rw[if_neg (by omega),if_neg (by omega),if_neg k3,if_pos k4];simp
     have hl0:s0.length+2 < lim:=by simp at hl;omega
     rw[if_neg (by simp[vL];omega),if_neg (by simp[k4]),if_neg (by simp[k4]),if_neg (by simp[k4]),YW,za,zkP hl0,Za,zy,zjD (.inl rfl) (Ze _) (by simp[vL]),za,ZW,zy,if_pos (by first|exact⟨rfl,.inl rfl⟩|exact⟨trivial,.inl rfl⟩)];simp only[zO];rw[znh,List.take_left' rfl,qz _ (by omega),za,zy,Xb znJ,za,Zl,zn,if_pos (by decide)];simp only[zb,za,za4];rw[ht];exact⟨false,rfl⟩
def KQ(k:Nat)(m:Int)(o:O)(s:List Int):List Int×R:=if k=1 then((Xe m o.k o.v s).2,zeI m o s) else((ZF m o.k o.v s).2,zeK m o s)
theorem zhW (n : Nat) {k : Nat} (hk : k = 1 \/ k = 2) (m : Int) (s : List Int) (sb : Bool) (o : O) (H : zd) (hl : s.length + 2 < lim) :
    ∃ sb',call (n+3) 63 [.int .u8 (k:Int),.int .i64 m,.sl 1 (vL s) sb,.agg [.int .u8 o.k,.int .i32 o.v]] H=some (.ret [.sl 1 (vL (KQ k (max 0 (min m 1000)) o s).1) sb',.agg (R.w (KQ k (max 0 (min m 1000)) o s).2)],H):=by
 have key:∃ sb',zbX (n+2) (k:Int) m (vL s) sb o.k o.v=some (.ret [.sl 1 (vL (KQ k (max 0 (min m 1000)) o s).1) sb',.agg (R.w (KQ k (max 0 (min m 1000)) o s).2)],[]):=by
  unfold zbX;rcases hk with rfl|rfl
  . obtain⟨sb',e⟩:=zpb n m s sb o [] hl;refine⟨sb',?_⟩;rw[if_pos (by rfl),e,zM];rfl
  . obtain⟨sb',e⟩:=zpc n m s sb o [] hl;refine⟨sb',?_⟩;rw[if_neg (by decide),if_pos (by rfl),e,zM];rfl
 obtain⟨sb',key⟩:=key;refine⟨sb',(zhU (n+2) _ m (vL s) sb o.k o.v H).trans ?_⟩;rw[key];generalize KQ k (max 0 (min m 1000)) o s=q;exact YV (by simp[Xc]) (by simp[Xc,R.w])
def upK(n:Nat):List Int:=(List.range n).map fun i:Nat=>(i:Int)
theorem jl(n:Nat):(upK n).length=n:=by simp[upK]
theorem zrH(n:Nat):upK (n+1)=upK n++[(n:Int)]:=by simp[upK,List.range_succ]
theorem znK{n i:Nat}(h:i < n):(iL (upK n))[i]?=some [.int .i64 (i:Int)]:=by simp[iL,upK,h,Xc]
theorem zrI(n:Nat)(os:List (List V))(H:zd)(hl:os.length+2 < lim):∀ (d k M:Nat),k+d=os.length->d < M →
    zR M (zbh (n+1) os) [.sl 1 [] false,.sl 1 (iL (upK k)) false,.int .i64 (k:Int)] H=some (.ret [.sl 1 (iL (upK os.length)) false],H):=by
 intro d
 induction d with
 | zero =>
   intro k M hk hM;obtain⟨M,rfl⟩:∃ M',M=M'+1:=⟨M - 1,by omega⟩;obtain rfl:k=os.length:=by omega
   rw[zA];unfold zbh;simp only[gv,zh,zf,zr,za,zm];rw[if_neg (by simp)];rfl
 | succ d ih =>
   intro k M hk hM;obtain⟨M,rfl⟩:∃ M',M=M'+1:=⟨M - 1,by omega⟩;rw[zA,<- ih (k+1) M (by omega) (by omega)];have key:∀ next,zbh (n+1) os [.sl 1 [] false,.sl 1 (iL (upK k)) false,.int .i64 (k:Int)] H next=next [.sl 1 [] false,.sl 1 (iL (upK (k+1))) false,.int .i64 ((k+1:Nat):Int)] H:=by
    intro next
    unfold zbh;simp only[gv,zh,zf,lsl];rw[zr,za,zm,if_pos (by simp;omega),zA];unfold znI;simp only[gv,zh,zf,lsl];rw[XN,jl,Za];simp only[zy];refine(zei (H:=H) (l:=upK k) (a:=k) (k:=k) (N:=fun l v=>next [.sl 1 [] false,.sl 1 l false,v] H) (fun p h=>by simp[h]) (fun p h=>by simp[h]) (by rw[jl];exact zl _) (by rw[jl];omega) (by omega)).trans ?_;rw[zN (by rw[jl];exact zl _),ZZ (by rw[jl];exact zl _),zrH]
   rw[key]
theorem zrJ(n:Nat){k:Nat}(hk:k=1\/k=2)(os:List O)(osb:Bool)(h:zd)(hl:os.length+2 < lim)(hn:os.length < n):call (n+2) 64 [.int .u8 (k:Int),.sl 2 (os.map O.w) osb] h=some (.ret [.sl 1 (iL (upK os.length)) false],h):=by
 have e:zsZ (n+1) (os.map O.w) osb=some (.ret [.sl 1 (iL (upK os.length)) false],[]):=by
  unfold zsZ;have:=zrI n (os.map O.w) [] (by simpa using hl) os.length 0 (n+1) (by simp) (by omega);rw[zo] at this;exact this
 have fr:V.free.freeL [V.int IntKind.u8 (k:Int),.sl 2 (os.map O.w) osb]=true:=by simp[W2 O.w (fun _=>rfl)]
 rcases hk with rfl|rfl
 . refine(zs0 (n+1) _ osb h).trans ?_;rw[e];exact YV fr (by simp[iL])
 . refine(zs1 (n+1) _ osb h).trans ?_;rw[e];exact YV fr (by simp[iL])
def jm (k : Nat) (m : Int) : List O -> List Int -> List R × List Int
 | [],s=>([],s)
 | o :: l,s=>((KQ k m o s).2 :: (jm k m l (KQ k m o s).1).1,(jm k m l (KQ k m o s).1).2)
theorem zrK (k : Nat) (m : Int) : ∀ (l : List O) (s : List Int), (jm k m l s).1.length = l.length
 | [],_=>rfl
 | o :: l,s=>by simp[jm,zrK k m l]
theorem ztC (m : Int) : ∀ (l : List O) (s : List Int), jm 1 m l s = Qy m l s
 | [],_=>rfl
 | o :: l,s=>by simp only[jm,Qy,KQ,if_true,ztC m l]
theorem ztD (m : Int) : ∀ (l : List O) (s : List Int), jm 2 m l s = QL m l s
 | [],_=>rfl
 | o :: l,s=>by simp only[jm,QL,KQ,if_neg (show ¬ (2=1) by decide),ztD m l]
theorem zpd(k:Nat)(m:Int)(o:O)(s:List Int):(KQ k m o s).1.length<=s.length+1:=by
 unfold KQ;split
 . exact zcx ..
 . show (ZF m o.k o.v s).2.length<=_;unfold ZF;split
   . split <;> simp
   split
   . split <;> simp
   split
   . split <;> simp;omega
   split
   . split <;> simp;omega
   . simp
theorem zrL(n:Nat){k:Nat}(hk:k=1\/k=2)(m:Int)(os:List O)(b:Bool)(H:zd)(hlim:os.length < lim):∀ (d M:Nat) (s:List Int) (sb:Bool) (done:List R) (v1 v2 v5:V),done.length+d=os.length->d < M->s.length+d+2 < lim →
    ∃ sb',zR M (WA (n+3) (k:Int) m (os.map O.w) b (.sl 1 (iL (upK os.length)) false)) [.sl 1 (vL s) sb,v1,v2,.sl 2 (done.map R.w++List.replicate d [.int .u8 0,.int .i32 0]) false,.int .i64 (done.length:Int),v5] H=some (.ret [.sl 1 (vL (jm k (max 0 (min m 1000)) (os.drop done.length) s).2) sb',.sl 2 ((done++(jm k (max 0 (min m 1000)) (os.drop done.length) s).1).map R.w) false],H):=by
 intro d
 induction d with
 | zero =>
   intro M s sb done v1 v2 v5 h1 h2 hl;obtain⟨M,rfl⟩:∃ M',M=M'+1:=⟨M - 1,by omega⟩;rw[ZZ (by omega)];refine⟨sb,?_⟩;rw[zA];unfold WA;simp only[gv,zh,zf];rw[ZW,za,XN,jl,zr,za,zm,if_neg (by simp;omega)];simp[lsl,jm]
 | succ d ih =>
   intro M s sb done v1 v2 v5 h1 h2 hl;obtain⟨M,rfl⟩:∃ M',M=M'+1:=⟨M - 1,by omega⟩;have hlt:done.length < os.length:=by omega
   have hdr:os.drop done.length=os[done.length] :: os.drop (done.length+1):=zQ hlt;obtain⟨sb1,e1⟩:=zhW n hk m s sb os[done.length] H (by omega);generalize hq:KQ k (max 0 (min m 1000)) os[done.length] s=q at e1;have hql:q.1.length<=s.length+1:=hq ▸ zpd k _ _ s;have hov:(os.map O.w)[done.length]?=some (O.w os[done.length]):=by rw[Y9,zg hlt];rfl
   have hou:V.agg (List.take 2 (List.drop 0 (O.w os[done.length])))=.agg [.int .u8 os[done.length].k,.int .i32 os[done.length].v]:=rfl;have htl:done.length < (done.map R.w++List.replicate (d+1) [V.int .u8 0,V.int .i32 0]).length:=by simp
   have hget:(done.map R.w++List.replicate (d+1) [V.int .u8 0,V.int .i32 0])[done.length]?=some [.int .u8 0,.int .i32 0]:=by
    rw[zK (by simp)];simp
   have hset:(done.map R.w++List.replicate (d+1) [V.int .u8 0,V.int .i32 0]).set done.length (setR [V.int .u8 0,V.int .i32 0] 0 (List.take 2 (List.drop 0 (setR [V.int .u8 0,V.int .i32 0] 0 (R.w q.2)))))=(done++[q.2]).map R.w++List.replicate d [V.int .u8 0,V.int .i32 0]:=by
    rw[ZC _ _ (by simp)];simp[Xq,R.w,setR]
   obtain⟨sb2,e2⟩:=ih M q.1 sb1 (done++[q.2]) (.sl 1 (lsl v1) false) (.sl 2 (lsl v2) false) (.bool false) (by simp;omega) (by omega) (by omega);refine⟨sb2,?_⟩;have key:∀ next,WA (n+3) (k:Int) m (os.map O.w) b (.sl 1 (iL (upK os.length)) false) [.sl 1 (vL s) sb,v1,v2,.sl 2 (done.map R.w++List.replicate (d+1) [.int .u8 0,.int .i32 0]) false,.int .i64 (done.length:Int),v5] H next=next [.sl 1 (vL q.1) sb1,.sl 1 (lsl v1) false,.sl 2 (lsl v2) false,.sl 2 ((done++[q.2]).map R.w++List.replicate d [.int .u8 0,.int .i32 0]) false,.int .i64 ((done.length+1:Nat):Int),.bool false] H:=by
    intro next
    unfold WA;simp only[gv,zh,zf,lsl];rw[ZW,za,XN,jl,zr,za,zm,if_pos (by simp;omega),Za,zy,Xb (znK hlt),za,Zl,zn,if_pos (by decide)];simp only[zb,za];rw[Za,zy,Xb hov,za,Zl,zn,if_pos (by decide),hou,e1,zM];simp only[zb,zj,za];rw[show V.cells (V.agg (R.w q.2))=R.w q.2 from rfl,if_pos (by rfl),if_pos (by exact zl 2),zy,Xb (znK hlt),za,Zl,zn,if_pos (by decide)];simp only[zb,za];rw[Za,zy,if_pos (by refine⟨?_,htl,by decide⟩;first|trivial|rfl),if_pos (by rfl),if_pos (by refine⟨?_,?_,?_⟩ <;> first|rfl|trivial|decide|exact zl 2),hget,za,zH,za,Xa (by omega),hset]
   rw[zA,key,hdr];simp only[jm,hq];rw[zE,ZM] at e2;rw[e2];simp
theorem zhX (n : Nat) {k : Nat} (hk : k = 1 \/ k = 2) (m : Int) (s : List Int) (sb : Bool) (os : List O) (b : Bool) (H : zd) (hl : s.length + os.length + 4 < lim) (hn : os.length < n) :
    ∃ sb',call (n+4) 22 [.int .u8 (k:Int),.int .i64 m,.sl 1 (vL s) sb,.sl 2 (os.map O.w) b] H=some (.ret [.sl 1 (vL (jm k (max 0 (min m 1000)) os s).2) sb',.sl 2 ((jm k (max 0 (min m 1000)) os s).1.map R.w) false],H):=by
 obtain⟨sb',e⟩:=zrL n hk m os b [] (by omega) os.length (n+3) s sb [] (.sl 1 [] false) (.sl 2 [] false) (.bool false) (by simp) (by omega) (by omega);refine⟨sb',(zhV (n+3) _ m (vL s) sb _ b H).trans ?_⟩;have key:zbY (n+3) (k:Int) m (vL s) sb (os.map O.w) b=some (.ret [.sl 1 (vL (jm k (max 0 (min m 1000)) os s).2) sb',.sl 2 ((jm k (max 0 (min m 1000)) os s).1.map R.w) false],[]):=by
  unfold zbY;rw[zo,Za,zy,zy,if_pos ⟨zl _,by omega,by first|trivial|rfl⟩,zrJ (n+1) hk os b [] (by omega) (by omega),zM,zx];simpa using e
 rw[key];generalize jm k (max 0 (min m 1000)) os s=q;exact YV (by simp[Xc,W2 O.w (fun _=>rfl)]) (by simp[Xc,W2 R.w (fun _=>rfl)])
theorem zpe{k:Nat}(hk:k=1\/k=2)(m:Nat)(os:List O)(st:St):((JQ k m os st).1.1.map Prod.fst,(JQ k m os st).2)=((jm k (m:Int) os (st.1.map Prod.fst)).2,(jm k (m:Int) os (st.1.map Prod.fst)).1):=by
 unfold JQ;rcases hk with rfl|rfl
 . rw[if_pos rfl,ztC];simp only[Y5]
 . rw[if_neg (by decide),if_pos rfl,ztD];simp only[Y5]
end Go.Proofs.Tryz
namespace Go.Sk
open Go.L Go.Rp
end Go.Sk
namespace Go.Proofs.Tryz
open Go.L Go.Rp Go.Sk
set_option maxRecDepth 100000
theorem zrM(k m:Nat)(os:List O)(st:St):(JQ k m os st).2.length=os.length:=by
 unfold JQ;split
 . exact zeJ ..
 split
 . exact zeL ..
 . unfold YK;rw[zjs];simp
theorem zua{c:List Int}{kinds:Int}(hc:Q5 c=true)(hk:1<=kinds)(hk2:kinds<=100):∀ o∈ops c kinds,0<=o.k/\o.k < 256:=by
 intro o ho;unfold ops at ho;obtain⟨x,hx,rfl⟩:=Zv.1 ho;have h1:=Int.emod_nonneg x (show kinds≠0 by omega);have h2:=Int.emod_lt_of_pos x (show 0 < kinds by omega);unfold Go.Rp.opOf;simp only;omega
theorem zkQ : ∀ (l : List Bool) (n : Nat), (hgt n l).2.length <= l.length
 | [],n=>zl _
 | b :: r,n=>by
   simp only[hgt];split
   . exact zl _
   . split
     . have:=zkQ r (n+1);simp;omega
     . simp
theorem zrN(m:Int)(st:St)(o:O):(stp m st o).1.2.length<=st.2.length:=by
 unfold stp;split
 . split
   . exact zl _
   . exact zkQ ..
 . split
   . split <;> exact zl _
   . exact zl _
theorem zgt (os : List O) (m : Int) : ∀ (l : List Int) (st : St) (told : List R), (J3 os m l st told).1.2.length <= st.2.length
 | [],st,told=>zl _
 | k :: l,st,told=>Z2 (zgt os m l _ _) (zrN m st _)
theorem zpf(k m:Nat)(os:List O)(st:St):(JQ k m os st).1.2.length<=st.2.length:=by
 unfold JQ;split
 . exact zl _
 split
 . exact zl _
 . exact zgt ..
theorem zmu(l:List Int):(l.flatMap J1).length=8 * l.length:=by
 induction l with
 | nil=>rfl
 | cons x l ih=>rw[List.flatMap_cons,zE,ih];simp[J1];omega
end Go.Proofs.Tryz
namespace Go.Proofs.Tryz
open Go.L Go.Rp Go.Sk
set_option maxRecDepth 100000
def zeV(c:List Int)(k:Nat)(x:Int):De:=⟨x,[x],ops ((c.take (if (k:Int)+1+x % 9 < (c.length:Int) then k+1+(x % 9).toNat else c.length)).drop k) 5⟩
def zrO(d:De):Prop:=Q5 d.bits=true/\d.bits.length<=1/\d.ops.length<=80/\qQ d.ops/\(∀ o∈d.ops,0<=o.k/\o.k < 256)/\0<=d.c
theorem zbZ{c l:List Int}(hc:Q5 c=true)(hl:∀ x∈l,x∈c):Q5 l=true:=by
 unfold Q5 at hc ⊢;exact Zn.2 fun x hx=>Zn.1 hc x (hl x hx)
theorem zs2{c:List Int}(hc:Q5 c=true){k:Nat}{x:Int}(hx:x∈c):zrO (zeV c k x):=by
 have h2:Q5 ((c.take (if (k:Int)+1+x % 9 < (c.length:Int) then k+1+(x % 9).toNat else c.length)).drop k)=true:=zbZ hc (fun y hy=>Zw (Zj hy));exact⟨zbZ hc (fun y hy=>by rw[Zx.1 hy];exact hx),zl _,zsI ..,zuK h2,zua h2 (by decide) (by decide),(zbA hc x hx).1⟩
theorem zmv(a:Int):cvt prog 5 3 (.int .u8 a)=some (.int .i64 (IntKind.i64.wrap a)):=by kernel_rfl
theorem zrP(a:Int)(l:List (List V))(b:Bool):Qo prog 43 [(0,.int .u8 a),(2,.sl 2 l b)]=some [.int .u8 a,.sl 0 [] true,.sl 2 l b]:=by kernel_rfl
theorem zub(a:Int):JY prog 22 1 [(0,.int .u8 a)]=some (1,[[.int .u8 a]]):=by kernel_rfl
theorem zrQ(a:Int)(l:List (List V))(b:Bool)(l':List (List V))(b':Bool):JY prog 40 1 [(0,.agg [.int .u8 a,.sl 1 l b,.sl 2 l' b'])]=some (3,[[.int .u8 a,.sl 1 l b,.sl 2 l' b']]):=by kernel_rfl
theorem zuc(e:Nat)(a:List De)(x:De)(h:a.length+1 < lim):app e 3 (.own e 3 (a.map De.w)) [De.w x]=some ((a++[x]).map De.w):=by
 simp[app,h]
theorem zmw(n:Nat)(c:List Int)(cb:Bool)(hc:Q5 c=true)(hcl:c.length<=1000)(hn:90<=n)(H:zd):∀ (d k M:Nat) (acc:List De) (v0:V),20 - acc.length=d->d < M->k<=3 * acc.length->acc.length<=20->(∀ x∈acc,zrO x) →
    ∃ l:List De,l.length<=20/\(∀ x∈l,zrO x)/\zR M (Wi n (c.map (Xc .u8)) cb) [.sl 3 [] false,.sl 3 (acc.map De.w) false,.int .i64 (k:Int)] H=some (.ret [.sl 3 (l.map De.w) false],H):=by
 intro d
 induction d with
 | zero =>
   intro k M acc v0 h1 h2 hk h3 h4;obtain⟨M,rfl⟩:∃ M',M=M'+1:=⟨M - 1,by omega⟩;refine⟨acc,h3,h4,?_⟩;rw[zA];unfold Wi;simp only[gv,zf,zh,lsl];rw[zr,za,zm];by_cases hlt:(k:Int) < ((c.map (Xc .u8)).length:Int)
   . rw[if_pos (decide_eq_true hlt),if_neg (by simp;omega)]
   . rw[if_neg (by simpa using hlt)]
 | succ d ih =>
   intro k M acc v0 h1 h2 hk h3 h4;obtain⟨M,rfl⟩:∃ M',M=M'+1:=⟨M - 1,by omega⟩;by_cases hlt:k < c.length
   . have hx:c[k]?=some c[k]:=zg hlt;have hmem:=Xd hlt;generalize c[k]=x at hx hmem;have hxs:0<=x/\x<=255:=by
      unfold Q5 at hc;have:=Zn.1 hc x hmem;simp at this;omega
     have hok:=zs2 hc (k:=k) hmem;have hdl:(zeV c k x).ops=ops ((c.take (if (k:Int)+1+x % 9 < (c.length:Int) then k+1+(x % 9).toNat else c.length)).drop k) 5:=rfl;obtain⟨l,l1,l2,l3⟩:=ih (k+3) M (acc++[zeV c k x]) v0 (by simp;omega) (by omega) (by simp;omega) (by simp;omega) (fun y hy=>by
      rcases Zi.1 hy with h|h
      . exact h4 y h
      . rw[Zx.1 h];exact hok)
     refine⟨l,l1,l2,?_⟩;rw[zA,<- l3];have hxv:(c.map (Xc .u8))[k]?=some [.int .u8 x]:=by rw[zG,hx];rfl
     have e1:Int.tmod x 9=x % 9:=X4 hxs.1;have w1:IntKind.i64.wrap (x % 9)=x % 9:=by rw[w64] <;> omega
     have w2:IntKind.i64.wrap ((k:Int)+1)=(k:Int)+1:=by rw[w64] <;> omega
     have w3:IntKind.i64.wrap ((k:Int)+1+x % 9)=(k:Int)+1+x % 9:=by rw[w64] <;> omega
     obtain⟨b,hb⟩:∃ b:Nat,b=(if (k:Int)+1+x % 9 < (c.length:Int) then k+1+(x % 9).toNat else c.length):=⟨_,rfl⟩;have hbi:(if (k:Int)+1+x % 9 < (((c.map (Xc .u8)).length:Nat):Int) then(k:Int)+1+x % 9 else(((c.map (Xc .u8)).length:Nat):Int))=(b:Int):=by
      rw[zo,hb];split <;> omega
     have hkb:k<=b:=by rw[hb];split <;> omega
     have hbl:b<=c.length:=by rw[hb];split <;> omega
     have hsub:((c.map (Xc .u8)).take b).drop k=((c.take b).drop k).map (Xc .u8):=by rw[WU,WV]
     have hops:=zqz n ((c.take b).drop k) 1 false 5 H (.inl rfl) (zbZ hc (fun y hy=>Zw (Zj hy))) (by decide) (by decide) hn;have hde:(⟨x,[x],ops ((c.take b).drop k) 5⟩:De)=zeV c k x:=by rw[hb];rfl
     have key:∀ next,Wi n (c.map (Xc .u8)) cb [.sl 3 [] false,.sl 3 (acc.map De.w) false,.int .i64 (k:Int)] H next=next [.sl 3 [] false,.sl 3 ((acc++[zeV c k x]).map De.w) false,.int .i64 ((k+3:Nat):Int)] H:=by
      intro next
      unfold Wi;simp only[gv,zf,zh,lsl];rw[zr,za,zm,if_pos (by simpa using hlt),if_pos (by simp;omega),Za,zy,Xb hxv,za];simp only[esP,zb,za];rw[zH,za,zy,Xb hxv,za];simp only[esP,zb,za];rw[ji (by decide),za,e1,zmv,za,w1,zH,za,w2,w3];show bd (some [V.int .i64 _,V.int .i64 _]) _=_;rw[za];show bd (some (V.int .i64 (if (k:Int)+1+x % 9 < (((c.map (Xc .u8)).length:Nat):Int) then(k:Int)+1+x % 9 else(((c.map (Xc .u8)).length:Nat):Int)))) _=_;rw[hbi,za,YW,za,zy,Za,zy,zjD (.inl rfl) hkb (by rw[zo];exact hbl),za,hsub,hops];simp only[clH];rw[zx,zrP,za,if_pos (by rfl),if_pos (by exact zl 3)];show bd (some (V.sl 0 [] true)) _=_;rw[za,zy,Xb hxv,za];simp only[esP,zb,za];rw[zub,za];show bd (some [[V.int .u8 x]]) _=_;rw[za];show bd (JY prog 40 1 [(0,.agg [.int .u8 x,.sl 1 [[V.int .u8 x]] false,.sl 2 ((ops ((c.take b).drop k) 5).map O.w) false])]) _=_;rw[zrQ,za];show bd (app _ 3 _ [De.w ⟨x,[x],ops ((c.take b).drop k) 5⟩]) _=_;rw[hde,zuc _ _ _ (by unfold lim;omega),za,zH,za,show IntKind.i64.wrap ((k:Int)+3)=((k+3:Nat):Int) by rw[w64] <;> omega]
     rw[key]
   . refine⟨acc,h3,h4,?_⟩;rw[zA];unfold Wi;simp only[gv,zf,zh,lsl];rw[zr,za,zm,if_neg (by simpa using hlt)]
theorem zmx(n:Nat)(c:List Int)(cb:Bool)(hc:Q5 c=true)(hcl:c.length<=1000)(hn:90<=n)(H:zd):∃ l:List De,l.length<=20/\(∀ x∈l,zrO x)/\call (n+1) 21 [.sl 1 (c.map (Xc .u8)) cb] H=some (.ret [.sl 3 (l.map De.w) false],H):=by
 obtain⟨l,l1,l2,l3⟩:=zmw n c cb hc hcl hn H 20 0 n [] (.bool false) rfl (by omega) (zl _) (by decide) (by simp);exact⟨l,l1,l2,(zkN n _ cb H).trans l3⟩
end Go.Proofs.Tryz
namespace Go.Proofs.Tryz
open Go.L Go.Rp Go.Sk
set_option maxRecDepth 100000
theorem clH_ret{R:Type}(vs:List V)(h:zd)(k:List V->zd->Option R):clH (some (.ret vs,h)) k=k vs h:=rfl
def Jy(k:Nat)(mo:Int)(vI vB:V):List V:=[.int .u8 (k:Int),.int .i64 mo,vI,vB]
theorem zhY (n : Nat) (h : zd) (k : Nat) (mo : Int) {vI vB : V} {B : List Bool} (hB : IsB vB B) (bs : List Int) (bb : Bool) (hs : Q5 bs = true) (hl : B.length + 8 * bs.length <= 20000) (hn : bs.length + 8 < n) :
    call (n+2) 66 [.agg (Jy k mo vI vB),.sl 1 (bs.map (Xc .u8)) bb] h=some (.ret [.agg (Jy k mo vI (slB (B++bs.flatMap J1)))],h):=by
 refine(zlX (n+1) (k:Int) mo vI vB _ bb h).trans ?_;unfold znk;rw[zlZ n h hB bs bb hs hl hn,zM,zx];rfl
theorem zrR(x:Int):Qo prog 160 [(0,.int .i32 x)]=some [.int .i32 x,.int .i64 0]:=by kernel_rfl
theorem zrS(x y:V):JY prog 72 1 [(0,.agg [x,y])]=some (2,[[x,y]]):=by kernel_rfl
theorem zmy(n:Nat)(k:Nat)(mo:Int)(vI vB v14:V)(s:List Int)(sb:Bool)(H:zd)(hl:s.length+2 < lim):∀ (d j M:Nat),j+d=s.length->d < M →
    zR M (KM n (.sl 1 (vL s) sb) v14) [.agg (Jy k mo vI vB),.agg [.int .u8 0,.int .i64 0,.sl 0 [] true,.sl 0 [] true],.sl 2 [] false,.sl 2 ((noH (s.take j)).map itW) false,.int .i64 (j:Int)] H=some (.ret [.agg (Jy k mo (slI (noH s)) vB),v14],H):=by
 intro d
 induction d with
 | zero =>
   intro j M h1 h2;obtain⟨M,rfl⟩:∃ M',M=M'+1:=⟨M - 1,by omega⟩;rw[zA,zN (by omega)];unfold KM;simp only[gv,zf,zh,ZW,zr,za,zm,lsl,Ql];rw[if_neg (by simp[vL];omega)];rfl
 | succ d ih =>
   intro j M h1 h2;obtain⟨M,rfl⟩:∃ M',M=M'+1:=⟨M - 1,by omega⟩;have hj:j < s.length:=by omega
   have hsv:(vL s)[j]?=some (Xc .i32 s[j]):=by unfold vL;rw[zG,zg hj];rfl
   have htk:noH (s.take (j+1))=noH (s.take j)++[(s[j],0)]:=by unfold noH;rw[Jx,zg hj,Zu];rfl
   have Wr:app 160 2 (S.own 160 2 ((noH (s.take j)).map itW)) [[.int .i32 s[j],.int .i64 0]]=some ((noH (s.take (j+1))).map itW):=by
    rw[htk];exact zhk (noH (s.take j)) [(s[j],0)] (by rw[Jr];simp;omega)
   have key:∀ next,KM n (.sl 1 (vL s) sb) v14 [.agg (Jy k mo vI vB),.agg [.int .u8 0,.int .i64 0,.sl 0 [] true,.sl 0 [] true],.sl 2 [] false,.sl 2 ((noH (s.take j)).map itW) false,.int .i64 (j:Int)] H next=next [.agg (Jy k mo vI vB),.agg [.int .u8 0,.int .i64 0,.sl 0 [] true,.sl 0 [] true],.sl 2 [] false,.sl 2 ((noH (s.take (j+1))).map itW) false,.int .i64 ((j+1:Nat):Int)] H:=by
    intro next
    unfold KM;simp only[gv,zf,zh,ZW,zr,za,zm,lsl,Ql];rw[if_pos (by simp[vL];omega),Za,zy,Xb hsv,za,Zl,zn,if_pos (by decide)];simp only[Xc,zb,za];rw[zrR,za,zrS,za];simp only;rw[Wr,za,zH,za,Xa (by omega)]
   rw[zA,key];exact ih (j+1) M (by omega) (by omega)
theorem zmz (n : Nat) (h : zd) {k : Nat} (hk : k = 1 \/ k = 2 \/ k = 3) (mo : Int) {vI vB : V} {st : St} (hI : IsI vI st.1) (hB : IsB vB st.2) (room : st.1.length <= Q2 mo) (os : List O) (b : Bool) (hs : qQ os) (hos : os.length <= 1000) (hn : 2500 <= n) :
    ∃ vI' vB',call (n+5) 67 [.agg (Jy k mo vI vB),.sl 2 (os.map O.w) b] h=some (.ret [.agg (Jy k mo vI' vB'),.sl 2 ((JQ k (Q2 mo) os st).2.map R.w) false],h)/\IsI vI' (JQ k (Q2 mo) os st).1.1/\IsB vB' (JQ k (Q2 mo) os st).1.2:=by
 have hcl:=zkI mo;have hc1000:=qC mo;have hlim:100000 < lim:=by unfold lim;omega
 by_cases h3:k=3
 . subst h3;obtain⟨vI',vB',hI',hB',e⟩:=zhp (n+1) mo st.1 st.2 hI hB os b h hs (by omega) (by omega);have hob:JQ 3 (Q2 mo) os st=YK os (max 0 (min mo 1000)) (st.1,st.2):=by unfold JQ;rw[if_neg (by decide),if_neg (by decide),hcl]
   refine⟨vI',vB',(zjM (n+4) _ mo vI vB _ b h).trans ?_,by rw[hob];exact hI',by rw[hob];exact hB'⟩;unfold zqU;rw[if_pos (by rfl),e,zM];simp only[zb,zj,za];rw[hI'.cells,hB'.cells,hob];rfl
 . have h12:k=1\/k=2:=by omega
   have ev:=zgj (n+3) hI h (by omega) (by omega);obtain⟨sb',e⟩:=zhX n h12 mo (st.1.map Prod.fst) false os b [] (by rw[zo];omega) (by omega);have h2:=zpe h12 (Q2 mo) os st;rw[Prod.mk.injEq] at h2;rw[hcl,<- h2.1,<- h2.2] at e;have hno:(JQ k (Q2 mo) os st).1.1=noH ((JQ k (Q2 mo) os st).1.1.map Prod.fst)/\(JQ k (Q2 mo) os st).1.2=st.2:=by
    unfold JQ;rcases h12 with rfl|rfl
    . rw[if_pos rfl,Y5];exact⟨rfl,rfl⟩
    . rw[if_neg (by decide),if_pos rfl,Y5];exact⟨rfl,rfl⟩
   have hlen:(JQ k (Q2 mo) os st).1.1.length<=1000:=by
    have h5:(st.1.map Prod.fst).length<=Q2 mo:=by rw[zo];exact room
    rcases h12 with rfl|rfl
    . unfold JQ;rw[if_pos rfl,Jr];exact Z2 (zbT (Q2 mo) os _ h5) hc1000
    . unfold JQ;rw[if_neg (by decide),if_pos rfl,Jr];exact Z2 (zbU (Q2 mo) os _ h5) hc1000
   generalize JQ k (Q2 mo) os st=q at e hno hlen;have hq:(q.1.1.map Prod.fst).length<=1000:=by rw[zo];exact hlen
   have el:=zmy (n+4) k mo vI vB (.sl 2 (q.2.map R.w) false) (q.1.1.map Prod.fst) sb' h (by omega) (q.1.1.map Prod.fst).length 0 (n+4) (by omega) (by omega);refine⟨slI (noH (q.1.1.map Prod.fst)),vB,(zjM (n+4) _ mo vI vB _ b h).trans ?_,.inl (by rw[<- hno.1]),by rw[hno.2];exact hB⟩;unfold zqU;have hk3:((k:Int) == 3)=false:=by simp;omega
   rw[hk3,if_neg (by decide),ev,clH_ret,zx,e];simp only[zaO,zb,zj,za];exact el
noncomputable def alF(n:Nat)(x0:V)(cs:List V)(hh2:zd):Option (Res×zd) :=
 (clH (call n 20 [x0] hh2) fun r25 h26 =>
 (Zr r25 fun v28 =>
 (bd cs[2]? fun v29 =>
 (clH (call n 43 [v29] h26) fun r30 h31 =>
 (Zr r30 fun v33 =>
 (clH (call n 19 [v28,v33] h31) fun r34 h35 =>
 (Zr r34 fun v37 =>
 (bv v37 fun b38=>if b38 then
 (clH (call n 30 [x0] h35) fun r39 h40 =>
 (Zr r39 fun v42 =>
 (zeZ h35 h40 (bd cs[2]? fun v43 =>
 (if qok [(h35).length] (([(S.v v43),(S.v (V.bool true))].filterMap fun s=>L.blkOf (some s))++([(S.v v43),(S.v (V.bool true))].filterMap fun s=>L.blkOf (some s))++[])=true then
 (bd (ZR h40 v43) fun p44 =>
 (bd (bop prog .eql 3 v42 (V.int .i64 ((p44.2).length:Int))) fun v45 =>
 (bv v45 fun b46=>if b46 then
 (bd cs[0]? fun v47 =>
 (bd (bop prog .eql 5 v47 (V.int .u8 3)) fun v48 =>
 (bv v48 fun b49=>if b49 then
 some (Res.ret [(V.bool true)],h40)
 else
 (clH (call n 29 [x0,(V.int .i64 1)] h40) fun r50 h51 =>
 (Zr r50 fun v53 =>
 (bd (ZR h51 v53) fun p54 =>
 some (Res.ret [(V.bool (((p54.2).length:Int) == 0))],h51)))))))
 else
 some (Res.ret [(V.bool false)],h40)))) else none)))))
 else
 none))))))))
theorem zs3{v:V}{I:List (Int×Nat)}(hI:IsI v I)(n:Nat):qok [n] (([(S.v v),(S.v (V.bool true))].filterMap fun s=>L.blkOf (some s))++([(S.v v),(S.v (V.bool true))].filterMap fun s=>L.blkOf (some s))++[])=true:=by
 rcases hI with rfl|⟨rfl,rfl⟩ <;> rfl
section
variable {k:Nat} {h:zd} {o s c:Nat} {cb:Option Nat} {Y:List Nat} {mo:Int} {pl:Bool} {st:St} {vI vB:V}
theorem zkR (n : Nat) (A : ObAt k h o s c cb Y (Q2 mo) pl st) (hI : IsI vI st.1) (hn : 2500 <= n) :
    ∃ h',alF (n+4) (.ptr o 0) (Jy k mo vI vB) h=some (.ret [.bool true],h')/\h.length<=h'.length/\∀ i,i < h.length->h'[i]?=h[i]?:=by
 have hlim:100000 < lim:=by unfold lim;omega
 have hc1000:=qC mo;have hroom:=A.room;have hkk:=A.body.kind;obtain⟨h1,r1,e1,S1,l1,o1⟩:=zfw n A (by omega);have A1:=A.keep (h':=h1) (fun y hy=>o1 y (A.lt y hy));have e2:=zgj (n+3) hI h1 (by omega) (by omega);have e3:=zeh (n+3) S1.sees (zni h1 (z:=1) (sb:=false) (.inl rfl)) (by rw[zo];omega) (by rw[zo];omega);have e4:=zkE (n+2) A1;obtain⟨z,hz⟩:=hI.slc h1;have hg2:(Jy k mo vI vB)[2]?=some vI:=rfl;have hg0:(Jy k mo vI vB)[0]?=some (.int .u8 (k:Int)):=rfl;have start:alF (n+4) (.ptr o 0) (Jy k mo vI vB) h=(if ((k:Int) == 3)=true then some (Res.ret [(V.bool true)],h1) else(clH (call (n+4) 29 [.ptr o 0,(V.int .i64 1)] h1) fun r50 h51=>(Zr r50 fun v53=>(bd (ZR h51 v53) fun p54=>some (Res.ret [(V.bool (((p54.2).length:Int) == 0))],h51))))):=by
  unfold alF;rw[e1,clH_ret,zx,hg2,za,e2,clH_ret,zx,e3,clH_ret,zx,zm,if_pos rfl,e4,clH_ret,zx,zax (fun _ _=>rfl),za,if_pos (zs3 hI _),hz,za,Xv,za,zm,if_pos (by simp),hg0,za,Xz,za,zm]
 rw[start];by_cases h3:k=3
 . exact⟨h1,by rw[if_pos (by simp[h3])],l1,o1⟩
 . obtain⟨h2,r2,e5,S2,l2,o2⟩:=qZ (n+1) A1 (j:=0) (by decide) (by omega);have hl0:lvK k 0 st.1=[]:=by unfold lvK;rw[if_neg h3]
   rw[hl0] at S2;obtain⟨sz,hs⟩:=S2.len;have e5':call (n+4) 29 [.ptr o 0,.int .i64 1] h1=some (.ret [r2],h2):=e5;refine⟨h2,?_,by omega,fun i hi=>(o2 i (by omega)).trans (o1 i hi)⟩;rw[if_neg (by simp;omega),e5',clH_ret,zx,hs,za];rfl
theorem zbi (n : Nat) (A : ObAt 3 h o s c cb Y (Q2 mo) pl st) {j : Int} (hj : j < 1 \/ 8 < j) :
    ∃ h' r,call (n+3) 29 [.ptr o 0,.int .i64 j] h=some (.ret [r],h')/\SlJ h' h.length r []/\h.length<=h'.length/\∀ i,i < h.length->h'[i]?=h[i]?:=by
 refine⟨h++[HB.row 21 1 [] true],.row h.length 1 0 0,?_,.inl (.inr ⟨h.length,true,zl _,rfl,zI⟩),by simp,fun i hi=>zk hi⟩;have e:call (n+2) 70 [.ptr s 0,.int .i64 j] h=some (.ret [.row h.length 1 0 0],h++[HB.row 21 1 [] true]):=by
  refine(zaQ (n+1) s j h).trans ?_;unfold zbC;rw[J2,za,zm,if_neg (by decide)];by_cases h1:j < 1
  . rw[if_pos (by simpa using h1)]
  . rw[if_neg (by simpa using h1),if_pos (by simp;omega)]
 rw[show n+3=(n+2)+1 from rfl,qA];unfold zeo;rw[QC,za,zm,if_neg (by decide),zC A.box,zn,if_pos (by decide)];simp only[zb,za];show bd2 (jz prog 120 true (.iface 120 (.agg [.ptr s 0]))) _=_;rw[znD,Zf,if_pos (by rfl),if_pos (by exact zl 1),if_neg (by decide)];show bd (some (V.ptr s 0)) _=_;rw[za,e,zM,zx]
theorem zhZ (n : Nat) (A : ObAt 3 h o s c cb Y (Q2 mo) pl st) (j : Nat) (hj : j <= 9) (hn : Q2 mo + 10 < n) :
    ∃ h' r,call (n+3) 29 [.ptr o 0,.int .i64 (j:Int)] h=some (.ret [r],h')/\SlJ h' h.length r (if j=0 then[] else lvI (j - 1) st.1)/\h.length<=h'.length/\∀ i,i < h.length->h'[i]?=h[i]?:=by
 by_cases h0:j=0
 . subst h0;rw[if_pos rfl];exact zbi n A (.inl (by decide))
 . rw[if_neg h0];by_cases h9:j=9
   . subst h9;have:lvI (9 - 1) st.1=[]:=by
      rcases A.body with ⟨e,_⟩|⟨e,_⟩|⟨_,ts,hi,⟨N,S⟩,_⟩
      . omega
      . omega
      . rw[hi];unfold lvI itT;rw[List.map_eq_nil_iff,List.filter_eq_nil_iff];intro p hp;obtain⟨t,ht,rfl⟩:=Zv.1 hp;have:=(S.ht t ht).2;simp;omega
     rw[this];exact zbi n A (.inr (by decide))
   . obtain⟨i,rfl⟩:∃ i,j=i+1:=⟨j - 1,by omega⟩;obtain⟨h',r,e,S,l,o'⟩:=qZ n A (j:=i) (by omega) hn;refine⟨h',r,e,?_,l,o'⟩;have:lvK 3 i st.1=lvI (i+1 - 1) st.1:=by unfold lvK lvI;rw[if_pos rfl];rfl
     rw[<- this];exact S
end
theorem zrT(n:Nat){o s c:Nat}{cb:Option Nat}{Y:List Nat}{mo:Int}{pl:Bool}{st:St}{vI vB:V}(hI:IsI vI st.1)(hn:2500<=n):∀ (d j M:Nat) (h:zd) (v0:V),ObAt 3 h o s c cb Y (Q2 mo) pl st->j+d=10->d < M →
    ∃ h',zR M (KN (n+4) (.ptr o 0)) [.agg (Jy 3 mo vI vB),v0,.int .i64 (j:Int)] h=some (.ret [.bool true],h')/\h.length<=h'.length/\∀ i,i < h.length->h'[i]?=h[i]?:=by
 have hlim:100000 < lim:=by unfold lim;omega
 have hc1000:=qC mo;intro d
 induction d with
 | zero =>
   intro j M h v0 A hj hM;obtain⟨M,rfl⟩:∃ M',M=M'+1:=⟨M - 1,by omega⟩;obtain⟨h',e,l,o'⟩:=zkR (vB:=vB) n A hI hn;refine⟨h',?_,l,o'⟩;rw[<- e,zA];unfold KN;simp only[gv,zf,zh,Ql];rw[QA,za,zm,if_neg (by simp;omega)];rfl
 | succ d ih =>
   intro j M h v0 A hj hM;obtain⟨M,rfl⟩:∃ M',M=M'+1:=⟨M - 1,by omega⟩;have hroom:=A.room;obtain⟨h1,r1,e1,S1,l1,o1⟩:=zhZ (n+1) A j (by omega) (by omega);have e2:=zjO (n+3) hI j h1 (by omega) (by omega);have hle:(if j=0 then[] else lvI (j - 1) st.1).length<=1000:=by
    split
    . simp
    . unfold lvI;rw[zo];exact Z2 (List.length_filter_le _ _) (by omega)
   have e3:=zeh (n+3) S1.sees (zni h1 (z:=1) (sb:=false) (.inl rfl)) (by omega) (by omega);obtain⟨h2,e4,l2,o2⟩:=ih (j+1) M h1 v0 (A.keep (fun y hy=>o1 y (A.lt y hy))) (by omega) (by omega);refine⟨h2,?_,by omega,fun i hi=>(o2 i (by omega)).trans (o1 i hi)⟩;have key:∀ next,KN (n+4) (.ptr o 0) [.agg (Jy 3 mo vI vB),v0,.int .i64 (j:Int)] h next=next [.agg (Jy 3 mo vI vB),v0,.int .i64 ((j+1:Nat):Int)] h1:=by
    intro next
    unfold KN;simp only[gv,zf,zh,Ql];rw[QA,za,zm,if_pos (by simp;omega),show (Jy 3 mo vI vB)[0]?=some (.int .u8 ((3:Nat):Int)) from rfl,za,Xz,za,zm,if_pos (by rfl),e1,clH_ret,zx,show (Jy 3 mo vI vB)[2]?=some vI from rfl,za,e2,clH_ret,zx,e3,clH_ret,zx,QR,za,zm,if_neg (by decide),zH,za,Xa (by omega)]
   rw[zA,key,e4]
theorem znL (n : Nat) {k : Nat} {h : zd} {o s c : Nat} {cb : Option Nat} {Y : List Nat} {mo : Int} {pl : Bool} {st : St} {vI vB : V} (A : ObAt k h o s c cb Y (Q2 mo) pl st) (hI : IsI vI st.1) (hn : 2500 <= n) :
    ∃ h',call (n+5) 68 [.ptr o 0,.agg (Jy k mo vI vB)] h=some (.ret [.bool true],h')/\h.length<=h'.length/\∀ i,i < h.length->h'[i]?=h[i]?:=by
 have hkk:=A.body.kind;by_cases h3:k=3
 . subst h3;obtain⟨h',e,l,o'⟩:=zrT (vB:=vB) n hI hn 10 0 (n+4) h (.bool false) A (by omega) (by omega);exact⟨h',(zjN (n+4) _ _ mo vI vB h).trans e,l,o'⟩
 . obtain⟨h',e,l,o'⟩:=zkR (vB:=vB) n A hI hn;refine⟨h',(zjN (n+4) _ (k:Int) mo vI vB h).trans ?_,l,o'⟩;unfold ztv;rw[<- e,show n+4=(n+3)+1 from rfl,zA];unfold KN;simp only[gv,zf,zh,Ql];rw[QA,za,zm,if_pos (by decide)];simp only[zb,za];rw[Xz,za,zm,if_neg (by simp;omega)];rfl
end Go.Proofs.Tryz
namespace Go.Proofs.Tryz
open Go.L
set_option maxRecDepth 100000
end Go.Proofs.Tryz
namespace Go.Proofs.Tryz
open Go.L Go.Rp Go.Sk
set_option maxRecDepth 100000
theorem zrU(n:Nat)(m:Int)(p:Bool)(a b c d:HB):call (n+1) 15 [.int .u8 1,.int .i64 m,.bool p] [a,b,c,d]=JM n 56 m p [a,b,c,d,.map zcP]:=by kernel_rfl
theorem zrV(n:Nat)(m:Int)(p:Bool)(a b c d e:HB):call (n+1) 15 [.int .u8 2,.int .i64 m,.bool p] [a,b,c,d,e]=JM n 58 m p [a,b,c,d,e,.map zcP]:=by kernel_rfl
theorem zrW(n:Nat)(m:Int)(p:Bool)(a b c d:HB):call (n+1) 15 [.int .u8 3,.int .i64 m,.bool p] [a,b,c,d]=JM n 60 m p [a,b,c,d,.map zcP]:=by kernel_rfl
end Go.Proofs.Tryz
namespace Go.Proofs.Tryz
open Go.L Go.Rp Go.Sk
set_option maxRecDepth 100000
def Two(p q:Bool)(k m:Nat)(h:zd)(oa sa ca ob sb cc:Nat)(st:St):Prop:=∃ cba Ya cbb Yb,ObAt k h oa sa ca cba Ya m p st/\ObAt k h ob sb cc cbb Yb m q st/\∀ x∈obB oa ca cba Ya,x ∉ obB ob cc cbb Yb
section
variable {p q:Bool} {k m:Nat} {h:zd} {oa sa ca ob sb cc:Nat} {st:St}
theorem Two.keep{h':zd}(A:Two p q k m h oa sa ca ob sb cc st)(hk:∀ i,i < h.length->h'[i]?=h[i]?):Two p q k m h' oa sa ca ob sb cc st:=by
 obtain⟨cba,Ya,cbb,Yb,A1,A2,dis⟩:=A;exact⟨cba,Ya,cbb,Yb,A1.keep (fun y hy=>hk y (A1.lt y hy)),A2.keep (fun y hy=>hk y (A2.lt y hy)),dis⟩
theorem zrX (n : Nat) (A : Two p q k m h oa sa ca ob sb cc st) (bs : List Int) (bb : Bool) (hs : Q5 bs = true) (hl : st.2.length + 8 * bs.length <= 20000) (hn : bs.length + 8 < n) :
    ∃ h1 h2,call (n+2) 23 [.ptr oa 0,.sl 1 (bs.map (Xc .u8)) bb] h=some (.ret [],h1)/\call (n+2) 23 [.ptr ob 0,.sl 1 (bs.map (Xc .u8)) bb] h1=some (.ret [],h2)/\Two p q k m h2 oa sa ca ob sb cc (st.1,st.2++bs.flatMap J1):=by
 obtain⟨cba,Ya,cbb,Yb,A1,A2,dis⟩:=A;obtain⟨h1,cb1,e1,B1,F1⟩:=zbd n A1 bs bb hs hl hn;have A2':=A2.keep (h':=h1) (fun y hy=>F1.old y (A2.lt y hy) (fun hx=>dis y hx hy));obtain⟨h2,cb2,e2,B2,F2⟩:=zbd n A2' bs bb hs hl hn;have dis1:∀ x∈obB oa ca cb1 Ya,x ∉ obB ob cc cbb Yb:=fun x hx hy=>by
  rcases F1.new x hx with h0|h0
  . exact dis x h0 hy
  . have:=A2.lt x hy;omega
 refine⟨h1,h2,e1,e2,cb1,Ya,cb2,Yb,B1.keep (fun y hy=>F2.old y (B1.lt y hy) (dis1 y hy)),B2,fun x hx hy=>?_⟩;rcases F2.new x hy with h0|h0
 . exact dis1 x hx h0
 . have:=B1.lt x hx;omega
end
theorem zrY(n:Nat){k:Nat}(hk:k=1\/k=2\/k=3){m:Int}{pl:Bool}{g h':zd}{r:Res}(h:JM (n+2) (zo5 k) m pl g=some (r,h')):h'.length=g.length+(if k=2 then 4 else 3):=by
 unfold JM at h;rcases hk with rfl|rfl|rfl
 . rw[show call (n+2) (zo5 1) [.int .i64 m] g=zc5 (n+1) m g from zeF (n+1) m g] at h;unfold zc5 at h;rw[zbe,zM,zx,zmm (.bool true),za] at h;rw[zM,zx,WS,zM,zx,zeS,za,if_pos (by rfl)] at h;cases h;simp
 . rw[show call (n+2) (zo5 2) [.int .i64 m] g=zc6 (n+1) m g from zeG (n+1) m g] at h;unfold zc6 at h;rw[zbf,zM,zx,zmn,za] at h;rw[zM,zx,WS,zM,zx,zeS,za,if_pos (by rfl)] at h;cases h;simp
 . obtain⟨N,e,S⟩:=zd7 n g m;rw[show call (n+2) (zo5 3) [.int .i64 m] g=zc7 (n+1) m g from zeH (n+1) m g] at h;unfold zc7 at h;rw[e,zM,zx,zmo,za] at h;rw[zM,zx,WS,zM,zx,zeS,za,if_pos (by rfl)] at h;cases h;simp
theorem zrZ(n:Nat)(m:Int)(p:Bool){h:zd}(hl:h.length=4):call (n+1) 15 [.int .u8 1,.int .i64 m,.bool p] h=JM n 56 m p (h++[.map zcP]):=by
 match h,hl with
 | [a,b,c,d],_=>exact zrU n m p a b c d
theorem zr0(n:Nat)(m:Int)(p:Bool){h:zd}(hl:h.length=5):call (n+1) 15 [.int .u8 2,.int .i64 m,.bool p] h=JM n 58 m p (h++[.map zcP]):=by
 match h,hl with
 | [a,b,c,d,e],_=>exact zrV n m p a b c d e
theorem zr1(n:Nat)(m:Int)(p:Bool){h:zd}(hl:h.length=4):call (n+1) 15 [.int .u8 3,.int .i64 m,.bool p] h=JM n 60 m p (h++[.map zcP]):=by
 match h,hl with
 | [a,b,c,d],_=>exact zrW n m p a b c d
theorem zs4(n:Nat){k:Nat}(hk:k=1\/k=2\/k=3)(m:Int):∃ h1 h2 oa sa ca ob sb cc,call (n+3) 15 [.int .u8 (k:Int),.int .i64 m,.bool false] []=some (.ret [.ptr oa 0],h1)/\call (n+3) 15 [.int .u8 (k:Int),.int .i64 m,.bool true] h1=some (.ret [.ptr ob 0],h2)/\Two false true k (Q2 m) h2 oa sa ca ob sb cc ([],[]):=by
 obtain⟨h1,oa,sa,ca,Ya,e1,A1,_⟩:=zhQ n hk m false [.map zcP];obtain⟨h2,ob,sb,cc,Yb,e2,A2,l2,o2,n2⟩:=zhQ n hk m true (h1++[.map zcP]);have hlen:=zrY n hk e1;have o2':∀ i,i < h1.length->h2[i]?=h1[i]?:=fun i hi=>(o2 i (by simp;omega)).trans (zk hi);refine⟨h1,h2,oa,sa,ca,ob,sb,cc,?_,?_,none,Ya,none,Yb,A1.keep (fun y hy=>o2' y (A1.lt y hy)),A2,fun x hx hy=>?_⟩
 . rw[<- e1];rcases hk with rfl|rfl|rfl
   . exact zkF (n+2) m false
   . exact zkG (n+2) m false
   . exact zkH (n+2) m false
 . rw[<- e2];rcases hk with rfl|rfl|rfl
   . exact zrZ (n+2) m true hlen
   . exact zr0 (n+2) m true hlen
   . exact zr1 (n+2) m true hlen
 . have h1:=A1.lt x hx;have h2:=n2 x hy;simp at h2;omega
def wt(l:List De):Nat:=(l.map fun d=>2+d.bits.length+d.ops.length).sum
theorem zc9(l:List De)(j:Nat)(d:De)(h:l[j]?=some d):wt (l.take (j+1))=wt (l.take j)+(2+d.bits.length+d.ops.length):=by
 have hj:=(zi.1 h).1;have:l.take (j+1)=l.take j++[d]:=by rw[Jx,h];rfl
 unfold wt;rw[this,Zu,List.sum_append];simp
theorem ztE(l:List De)(j:Nat):wt (l.take j)<=wt l:=by
 have:l=l.take j++l.drop j:=(Zy j l).symm;unfold wt
 conv=>rhs;rw[this,Zu,List.sum_append]
 omega
def zud(d:De):Prop:=Q5 d.bits=true/\d.ops.length<=1000/\∀ o∈d.ops,0<=o.k/\o.k < 256
end Go.Proofs.Tryz
namespace Go.Proofs.Tryz
open Go.L Go.Rp Go.Sk
set_option maxRecDepth 100000
def zr2(d:De):Prop:=d.bits.length<=140737488355328/\d.ops.length<=140737488355328
theorem znM (l : List De) : ∀ k, k <= l.length -> 2 * k <= wt (l.take k)
 | 0,_=>Ze _
 | k+1,h=>by
   have hd:l[k]?=some l[k]:=zg (by omega);have:=zc9 l k _ hd;have:=znM l k (by omega);omega
theorem zmA(n:Nat)(l:List De)(b:Bool)(hB:∀ d∈l,zr2 d)(H:zd):∀ (d k M:Nat),1001 - wt (l.take k)<=d->d < M->k<=l.length →
    ∃ r:Nat,zR M (JD n (l.map De.w) b) [.int .i64 (wt (l.take k):Int),.int .i64 (k:Int)] H=some (.ret [.int .i64 (r:Int)],H)/\(r<=300->wt l<=300):=by
 have hlim:100000 < lim:=by unfold lim;omega
 intro d
 induction d with
 | zero =>
   intro k M h1 h2 h3;obtain⟨M,rfl⟩:∃ M',M=M'+1:=⟨M - 1,by omega⟩;refine⟨wt (l.take k),?_,fun h=>by omega⟩;rw[zA];unfold JD;simp only[gv,zf,zh];rw[zr,za,zm];by_cases hk:k < l.length
   . rw[if_pos (by simp;omega),QA,za,zm,if_neg (by simp;omega)]
   . rw[if_neg (by simp;omega)]
 | succ d ih =>
   intro k M h1 h2 h3;obtain⟨M,rfl⟩:∃ M',M=M'+1:=⟨M - 1,by omega⟩;by_cases hk:k < l.length
   . by_cases ha:wt (l.take k)<=1000
     . have hd:l[k]?=some l[k]:=zg hk;have hlen:=hB _ (Xd hk);generalize l[k]=de at hd hlen;have hw:=zc9 l k de hd;have hg:=znM l k h3;obtain⟨q1,q2⟩:=hlen;obtain⟨r,e,hr⟩:=ih (k+1) M (by omega) (by omega) (by omega);refine⟨r,?_,hr⟩;rw[<- e,zA];have hi:ZE 3 k (.sl 3 (l.map De.w) b)=some (.iptr 3 (De.w de) 0):=Xb (by rw[zG,hd];rfl) b;have g1:(De.w de)[1]?=some (.sl 1 (de.bits.map (Xc .u8)) false):=rfl;have g2:(De.w de)[2]?=some (.sl 2 (de.ops.map O.w) false):=rfl;have key:∀ nx,JD n (l.map De.w) b [.int .i64 (wt (l.take k):Int),.int .i64 (k:Int)] H nx=nx [.int .i64 (wt (l.take (k+1)):Int),.int .i64 ((k+1:Nat):Int)] H:=by
        intro nx;unfold JD;simp only[gv,zf,zh];rw[zr,za,zm,if_pos (by simp;omega),QA,za,zm,if_pos (by simp;omega),Za,zy,hi,za];simp only[ZL,za,zq,esP];rw[Zl,zn,if_pos (by decide),g1,za,ZW,za,zy,hi,za,za,Zl,zn,if_pos (by decide),g2,za,ZW,za,zH,za,zH,za,Xa (by omega)];simp only[zo];rw[show IntKind.i64.wrap (2+(de.bits.length:Int))=2+(de.bits.length:Int) by rw[w64] <;> omega,show IntKind.i64.wrap (2+(de.bits.length:Int)+(de.ops.length:Int))=2+(de.bits.length:Int)+(de.ops.length:Int) by rw[w64] <;> omega,
         show IntKind.i64.wrap ((wt (l.take k):Int)+(2+(de.bits.length:Int)+(de.ops.length:Int)))=(wt (l.take (k+1)):Int) by rw[w64] <;> omega]
       rw[key]
     . refine⟨wt (l.take k),?_,fun h=>by omega⟩;rw[zA];unfold JD;simp only[gv,zf,zh];rw[zr,za,zm,if_pos (by simp;omega),QA,za,zm,if_neg (by simp;omega)]
   . have hkl:l.take k=l:=zN (by omega);refine⟨wt (l.take k),?_,fun h=>by rw[hkl] at h;exact h⟩;rw[zA];unfold JD;simp only[gv,zf,zh];rw[zr,za,zm,if_neg (by simp;omega)]
theorem zmB (n : Nat) (l : List De) (b : Bool) (hB : ∀ d ∈ l, zr2 d) (hn : 1010 <= n) (H : zd) :
    ∃ r:Nat,call (n+1) 25 [.sl 3 (l.map De.w) b] H=some (.ret [.int .i64 (r:Int)],H)/\(r<=300->wt l<=300):=by
 obtain⟨r,e,hr⟩:=zmA n l b hB H 1001 0 n (by omega) (by omega) (Ze _);exact⟨r,(zkO n _ b H).trans e,hr⟩
theorem znN(l:List De):V.free.freeLL (l.map De.w)=true:=W2 _ (fun d=>by simp[De.w,W2 O.w (fun _=>rfl)]) l
def zu7(d:De):Prop:=Q5 d.bits=true/\(∀ o∈d.ops,0<=o.k/\o.k < 256)/\zr2 d
theorem zue{l:List De}{d:De}(h:d∈l):d.ops.length+2<=wt l/\l.length<=wt l:=by
 refine⟨?_,?_⟩
 . obtain⟨i,hi⟩:=ZB.1 h;have:=zc9 l i d hi;have:=ztE l (i+1);omega
 . have:=znM l l.length (zl _);rw[XJ] at this;omega
theorem zkS : ∀ (l : List De), (∀ d ∈ l, zrO d) -> wt l <= 83 * l.length
 | [],_=>zl _
 | d :: l,h=>by
   have h1:=h d (by simp);have h2:=zkS l (fun x hx=>h x (zw _ hx));have e:wt (d :: l)=(2+d.bits.length+d.ops.length)+wt l:=by simp[wt]
   rw[e,zD];have:=h1.2.1;have:=h1.2.2.1;omega
end Go.Proofs.Tryz
namespace Go.Proofs.Tryz
open Go.L Go.Rp Go.Sk
set_option maxRecDepth 100000
section
variable {p q:Bool} {k m:Nat} {h:zd} {oa sa ca ob sb cc:Nat} {st:St}
theorem zs5 (n : Nat) (A : Two p q k m h oa sa ca ob sb cc st) (os : List O) (osb : Bool) (hk : ∀ o ∈ os, 0 <= o.k /\ o.k < 256) (hos : os.length <= 1000) (hn : 2 * os.length + m + 100 <= n) :
    ∃ h1 T1 h2 T2,call (n+8) 17 [.ptr oa 0,.sl 2 (os.map O.w) osb] h=some (.ret [.row T1 2 0 os.length],h1)/\call (n+8) 17 [.ptr ob 0,.sl 2 (os.map O.w) osb] h1=some (.ret [.row T2 2 0 os.length],h2) ∧
     RowR h1 T1 (JQ k m os st).2/\RowR h2 T2 (JQ k m os st).2/\Two p q k m h2 oa sa ca ob sb cc (JQ k m os st).1:=by
 obtain⟨cba,Ya,cbb,Yb,A1,A2,dis⟩:=A;obtain⟨h1,Y1,T1,e1,R1,B1,t1,u1,F1⟩:=zeQ n A1 os osb hk hos hn;have A2':=A2.keep (h':=h1) (fun y hy=>F1.old y (A2.lt y hy) (fun hx=>dis y hx hy));obtain⟨h2,Y2,T2,e2,R2,B2,t2,u2,F2⟩:=zeQ n A2' os osb hk hos hn;have dis1:∀ x∈obB oa ca cba Y1,x ∉ obB ob cc cbb Yb:=fun x hx hy=>by
  rcases F1.new x hx with h0|h0
  . exact dis x h0 hy
  . have:=A2.lt x hy;omega
 refine⟨h1,T1,h2,T2,e1,e2,R1,R2,cba,Y1,cbb,Y2,B1.keep (fun y hy=>F2.old y (B1.lt y hy) (dis1 y hy)),B2,fun x hx hy=>?_⟩;rcases F2.new x hy with h0|h0
 . exact dis1 x hx h0
 . have:=B1.lt x hx;omega
theorem zr3 (n : Nat) (A : Two p q k m h oa sa ca ob sb cc st) (hb : st.2.length < lim) (hn : m + 40 < n) :
    ∃ h1 h2 oa' sa' ca' ob' sb' cc',call (n+6) 28 [.ptr oa 0] h=some (.ret [.ptr oa' 0],h1)/\call (n+6) 28 [.ptr ob 0] h1=some (.ret [.ptr ob' 0],h2)/\Two p q k m h2 oa' sa' ca' ob' sb' cc' st:=by
 obtain⟨cba,Ya,cbb,Yb,A1,A2,dis⟩:=A;obtain⟨h1,oa',sa',ca',cba',Ya',e1,B1,l1,o1,n1⟩:=zbg n A1 hb hn;have A2':=A2.keep (h':=h1) (fun y hy=>o1 y (A2.lt y hy));obtain⟨h2,ob',sb',cc',cbb',Yb',e2,B2,l2,o2,n2⟩:=zbg n A2' hb hn;exact⟨h1,h2,oa',sa',ca',ob',sb',cc',e1,e2,cba',Ya',cbb',Yb',B1.keep (fun y hy=>o2 y (B1.lt y hy)),B2,fun x hx hy=>by have:=B1.lt x hx;have:=n2 x hy;omega⟩
theorem zmC (n : Nat) {mo : Int} {vI vB : V} (A : Two p q k (Q2 mo) h oa sa ca ob sb cc st) (hI : IsI vI st.1) (hn : 2500 <= n) :
    ∃ h1 h2,call (n+5) 68 [.ptr oa 0,.agg (Jy k mo vI vB)] h=some (.ret [.bool true],h1)/\call (n+5) 68 [.ptr ob 0,.agg (Jy k mo vI vB)] h1=some (.ret [.bool true],h2)/\Two p q k (Q2 mo) h2 oa sa ca ob sb cc st:=by
 have A':=A;obtain⟨cba,Ya,cbb,Yb,A1,A2,dis⟩:=A;obtain⟨h1,e1,l1,o1⟩:=znL (vB:=vB) n A1 hI hn;obtain⟨h2,e2,l2,o2⟩:=znL (vB:=vB) n (A2.keep (h':=h1) (fun y hy=>o1 y (A2.lt y hy))) hI hn;exact⟨h1,h2,e1,e2,A'.keep (fun i hi=>(o2 i (by omega)).trans (o1 i hi))⟩
end
def zmD(d:De):Prop:=zud d/\0<=d.c/\qQ d.ops
theorem KR(k:Nat)(mo:Int)(a b:V):((Jy k mo a b).drop 0 |>.take 4)=Jy k mo a b:=rfl
theorem zkT(k:Nat)(mo:Int)(a b c d:V):setR (Jy k mo a b) 0 (Jy k mo c d)=Jy k mo c d:=rfl
theorem zr4(k:Nat)(mo:Int)(c d:V):setR [(V.int .u8 0),(V.int .i64 0),(V.sl 0 [] true),(V.sl 0 [] true)] 0 (Jy k mo c d)=Jy k mo c d:=rfl
theorem zeW(k:Nat)(mo:Int)(c d:V):V.cells (.agg (Jy k mo c d))=Jy k mo c d:=rfl
theorem zs6{k:Nat}(hk:k=1\/k=2\/k=3)(mo:Int)(ds:List De)(dsb:Bool)(hds:∀ d∈ds,zmD d)(hw:wt ds<=2000)(hdl:ds.length<=1000):∀ (d j M:Nat) (h:zd) (st:St) (oa sa ca ob sb cc:Nat) (vI vB v0:V),Two false true k (Q2 mo) h oa sa ca ob sb cc st->IsI vI st.1->IsB vB st.2->j+d=ds.length->d < M->st.2.length<=8 * wt (ds.take j) →
    ∃ H,zR M (JJ 6000 (ds.map De.w) dsb) [v0,.ptr oa 0,.ptr ob 0,.agg (Jy k mo vI vB),.int .i64 (j:Int)] h=some (.ret [.bool true],H):=by
 have hlim:100000 < lim:=by unfold lim;omega
 have hc1000:=qC mo;intro d
 induction d with
 | zero =>
   intro j M h st oa sa ca ob sb cc vI vB v0 A hI hB hj hM hb;obtain⟨M,rfl⟩:∃ M',M=M'+1:=⟨M - 1,by omega⟩;refine⟨h,?_⟩;rw[zA];unfold JJ;simp only[gv,zf,zh];rw[zr,za,zm,if_neg (by simp;omega)]
 | succ d ih =>
   intro j M h st oa sa ca ob sb cc vI vB v0 A hI hB hj hM hb;obtain⟨M,rfl⟩:∃ M',M=M'+1:=⟨M - 1,by omega⟩;have hjl:j < ds.length:=by omega
   have hd:ds[j]?=some ds[j]:=zg hjl;obtain⟨⟨q1,q2,q3⟩,q4,q5⟩:=hds _ (Xd hjl);generalize ds[j]=de at hd q1 q2 q3 q4 q5;have hwt:=zc9 ds j de hd;have hwl:=ztE ds (j+1);have hroom:st.1.length<=Q2 mo:=by obtain⟨_,_,_,_,B,_⟩:=A;exact B.room
   have g0:(De.w de)[0]?=some (.int .u8 de.c):=rfl;have g1:(De.w de)[1]?=some (.sl 1 (de.bits.map (Xc .u8)) false):=rfl;have g2:(De.w de)[2]?=some (.sl 2 (de.ops.map O.w) false):=rfl;have hi:ZE 3 j (.sl 3 (ds.map De.w) dsb)=some (.iptr 3 (De.w de) 0):=Xb (by rw[zG,hd];rfl) dsb;have hrem:bop prog .rem 5 (.int .u8 de.c) (.int .u8 8)=some (.int .u8 (de.c.tmod 8)):=ji (by decide);by_cases c0:de.c.tmod 8=0
   . obtain⟨h1,h2,e1,e2,A2⟩:=zrX 5998 A de.bits false q1 (by omega) (by omega);have e3:=zhY 5998 h2 k mo (vI:=vI) hB de.bits false q1 (by omega) (by omega);obtain⟨h3,h4,e4,e5,A4⟩:=zmC 5995 (vB:=slB (st.2++de.bits.flatMap J1)) A2 hI (by decide);obtain⟨H,ef⟩:=ih (j+1) M h4 (st.1,st.2++de.bits.flatMap J1) oa sa ca ob sb cc vI (slB (st.2++de.bits.flatMap J1)) v0 A4 hI (.inl rfl) (by omega) (by omega) (by simp only[zE,zmu];omega);refine⟨H,?_⟩;rw[zA,<- ef];have key:∀ nx,JJ 6000 (ds.map De.w) dsb [v0,.ptr oa 0,.ptr ob 0,.agg (Jy k mo vI vB),.int .i64 (j:Int)] h nx=nx [v0,.ptr oa 0,.ptr ob 0,.agg (Jy k mo vI (slB (st.2++de.bits.flatMap J1))),.int .i64 ((j+1:Nat):Int)] h4:=by
      intro nx;unfold JJ;simp only[gv,zf,zh,Ql];rw[zr,za,zm,if_pos (by simp;omega),Za,zy,hi,za];simp only[ZL,za,zq,esP];rw[Zl,zn,if_pos (by decide),g0,za,hrem,za,Xz,za,zm,if_pos (by simpa using c0),zy,hi,za,za,Zl,zn,if_pos (by decide),g1,za,e1,zM,zy,hi,za,za,Zl,zn,if_pos (by decide),g1,za,e2,zM,zy,hi,za,za,Zl,zn,if_pos (by decide),g1,za,KR,e3,zM,zx,zeW,zkT,KR,if_pos (by rfl),if_pos (by exact zl 4),e4,zM,zx,QR,za,zm,if_neg (by decide),e5,zM,zx,QR,za,zm,if_neg (by decide),zH,za,Xa (by omega)]
     rw[key]
   . by_cases c1:de.c.tmod 8=1
     . obtain⟨h1,h2,oa',sa',ca',ob',sb',cc',e1,e2,A2⟩:=zr3 5994 A (by omega) (by omega);obtain⟨h3,h4,e4,e5,A4⟩:=zmC 5995 (vB:=vB) A2 hI (by decide);obtain⟨H,ef⟩:=ih (j+1) M h4 st oa' sa' ca' ob' sb' cc' vI vB v0 A4 hI hB (by omega) (by omega) (by omega);refine⟨H,?_⟩;rw[zA,<- ef];have key:∀ nx,JJ 6000 (ds.map De.w) dsb [v0,.ptr oa 0,.ptr ob 0,.agg (Jy k mo vI vB),.int .i64 (j:Int)] h nx=nx [v0,.ptr oa' 0,.ptr ob' 0,.agg (Jy k mo vI vB),.int .i64 ((j+1:Nat):Int)] h4:=by
        intro nx;unfold JJ;simp only[gv,zf,zh,Ql];rw[zr,za,zm,if_pos (by simp;omega),Za,zy,hi,za];simp only[ZL,za,zq,esP];rw[Zl,zn,if_pos (by decide),g0,za,hrem,za,Xz,za,zm,if_neg (by simpa using c0),Xz,za,zm,if_pos (by simpa using c1),e1,zM,zx,e2,zM,zx,KR,e4,zM,zx,QR,za,zm,if_neg (by decide),e5,zM,zx,QR,za,zm,if_neg (by decide),zH,za,Xa (by omega)]
       rw[key]
     . obtain⟨vI',vB',e0,hI',hB'⟩:=zmz 5995 h hk mo hI hB hroom de.ops false q5 q2 (by decide);obtain⟨h1,T1,h2,T2,e1,e2,R1,R2,A2⟩:=zs5 5992 A de.ops false q3 q2 (by omega);have hbits:=zpf k (Q2 mo) de.ops st;have hlen:=zrM k (Q2 mo) de.ops st;generalize JQ k (Q2 mo) de.ops st=q at e0 hI' hB' R1 R2 A2 hbits hlen;have t1:=zel 5999 R1.sees (zjF h1 q.2 false) (by omega) (by omega);have t2:=zel 5999 R2.sees (zjF h2 q.2 false) (by omega) (by omega);rw[hlen] at t1 t2;obtain⟨h3,h4,e4,e5,A4⟩:=zmC 5995 (vB:=vB') A2 hI' (by decide);obtain⟨H,ef⟩:=ih (j+1) M h4 q.1 oa sa ca ob sb cc vI' vB' v0 A4 hI' hB' (by omega) (by omega) (by omega);refine⟨H,?_⟩;rw[zA,<- ef];have key:∀ nx,JJ 6000 (ds.map De.w) dsb [v0,.ptr oa 0,.ptr ob 0,.agg (Jy k mo vI vB),.int .i64 (j:Int)] h nx=nx [v0,.ptr oa 0,.ptr ob 0,.agg (Jy k mo vI' vB'),.int .i64 ((j+1:Nat):Int)] h4:=by
        intro nx;unfold JJ;simp only[gv,zf,zh,Ql];rw[zr,za,zm,if_pos (by simp;omega),Za,zy,hi,za];simp only[ZL,za,zq,esP];rw[Zl,zn,if_pos (by decide),g0,za,hrem,za,Xz,za,zm,if_neg (by simpa using c0),Xz,za,zm,if_neg (by simpa using c1),zy,hi,za];rw[g2,za,KR,e0,clH_ret];simp only[zb,zj,za];rw[zeW,zr4,KR,zkT,KR,if_pos (by rfl),if_pos (by exact zl 4),if_pos (by rfl),if_pos (by exact zl 4),zy,hi,za,za,Zl,zn,if_pos (by decide),g2,za,e1,zM,zx,t1,zM,zx,QR,za,zm,if_neg (by decide),zy,hi,za,za,Zl,zn,if_pos (by decide),g2,za,e2,zM,zx,t2,zM,zx,QR,za,zm,if_neg (by decide),e4,zM,zx,QR,za,zm,if_neg (by decide),e5,zM,zx,QR,za,zm,if_neg (by decide),zH,za,Xa (by omega)]
       rw[key]
theorem zb0 {k : Nat} (hk : k = 1 \/ k = 2 \/ k = 3) (m : Int) (ds : List De) (dsb : Bool) (hds : ∀ d ∈ ds, zmD d) (hw : wt ds <= 2000) (hdl : ds.length <= 1000) (h : zd) :
    call 6001 27 [.int .u8 (k:Int),.int .i64 m,.sl 3 (ds.map De.w) dsb] h=some (.ret [.bool true],h):=by
 refine(zqW 6000 (k:Int) m (ds.map De.w) dsb h).trans ?_;have key:∃ H,zqV 6000 (k:Int) m (ds.map De.w) dsb=some (.ret [.bool true],H):=by
  obtain⟨h1,h2,oa,sa,ca,ob,sb,cc,e1,e2,A⟩:=zs4 5997 hk m;obtain⟨H,e⟩:=zs6 hk m ds dsb hds hw hdl ds.length 0 6000 h2 ([],[]) oa sa ca ob sb cc (.sl 0 [] true) (.sl 0 [] true) (.bool false) A (.inr ⟨rfl,rfl⟩) (.inr ⟨rfl,rfl⟩) (by omega) (by omega) (by simp);refine⟨H,?_⟩;unfold zqV;rw[e1,zM,zx,e2,zM,zx,QC,za,zm,if_neg (by decide),QC,za,zm,if_neg (by decide)];exact e
 obtain⟨H,key⟩:=key;rw[key];exact YV (by simp[znN]) (by simp)
theorem zs7(n:Nat)(m:Int):(List.range 256).all (fun i=>i == 1 || (i == 2 || (i == 3 || (match call (n+1) 15 [.int .u8 (i:Int),.int .i64 m,.bool true] [] with|some (.ret [.val (.pointer none)],_)=>true|_=>false))))=true:=by kernel_rfl
theorem zr5(n:Nat)(m:Int){x:Int}(h0:0<=x/\x < 256)(h1:x < 1\/3 < x):∃ h',call (n+1) 15 [.int .u8 x,.int .i64 m,.bool true] []=some (.ret [.val (.pointer none)],h'):=by
 obtain⟨i,rfl⟩:∃ i:Nat,x=(i:Int):=⟨x.toNat,by omega⟩;have h:=Zn.1 (zs7 n m) i (zZ.2 (by omega));have e1:(i == 1)=false:=by simp;omega
 have e2:(i == 2)=false:=by simp;omega
 have e3:(i == 3)=false:=by simp;omega
 rw[e1,e2,e3] at h;simp only[WT] at h;split at h
 . exact⟨_,by assumption⟩
 . cases h
theorem zr6(h:zd):Qb prog h .neq 25 (.val (.pointer none)) (.val (.pointer none))=some (.bool false):=by kernel_rfl
def zuN(d:De):Prop:=zu7 d/\0<=d.c/\qQ d.ops
theorem zmE (x0 x1 x2 : Int) (ds : List De) (dsb : Bool) (c : List Int) (cb : Bool) (h0 : 0 <= x0 /\ x0 < 256) (h2 : 0 <= x2 /\ x2 < 256) (hds : ∀ d ∈ ds, zuN d) (hc : Q5 c = true) :
    call 6002 6 [.int .u8 x0,.int .i64 x1,.int .u8 x2,.sl 3 (ds.map De.w) dsb,.sl 1 (c.map (Xc .u8)) cb] []=some (.ret [.bool true],[]):=by
 refine(zhm 6001 x0 x1 x2 (ds.map De.w) dsb (c.map (Xc .u8)) cb []).trans ?_;have key:∃ H,zbR 6001 x0 x1 x2 (ds.map De.w) dsb (c.map (Xc .u8)) cb=some (.ret [.bool true],H):=by
  obtain⟨k,hk⟩:∃ k:Nat,(k:Int)=1+x0 % 3:=⟨(1+x0 % 3).toNat,by omega⟩;have hkk:k=1\/k=2\/k=3:=by omega
  have hkw:IntKind.u8.wrap (1+Int.tmod x0 3)=(k:Int):=by rw[X4 h0.1,w8,hk] <;> omega
  obtain⟨i,hi⟩:∃ i:Nat,(i:Int)=1+x2 % 3:=⟨(1+x2 % 3).toNat,by omega⟩;have hii:i=1\/i=2\/i=3:=by omega
  have hiw:IntKind.u8.wrap (1+Int.tmod x2 3)=(i:Int):=by rw[X4 h2.1,w8,hi] <;> omega
  obtain⟨r,e1,hr⟩:=zmB 6000 ds dsb (fun d hd=>(hds d hd).1.2.2) (by decide) [];have hkn:=zoj 5901 [];unfold zbR;rw[hkw,hiw,e1,zM,zx,Xy,za,zm,zo];by_cases h1:r<=300
  . have hw:=hr h1;rw[if_neg (by simp;omega)];by_cases hl:c.length > 100
    . exact⟨[],by rw[if_pos (by simp;omega),hkn,zM,zx]⟩
    . have hdl:ds.length<=1000:=by
        have:=znM ds ds.length (zl _);rw[XJ] at this;omega
      have hfull:∀ d∈ds,zmD d:=fun d hd=>⟨⟨(hds d hd).1.1,by have:=(zue hd).1;omega,(hds d hd).1.2.1⟩,(hds d hd).2.1,(hds d hd).2.2⟩;have e2:=zb0 hkk x1 ds dsb hfull (by omega) hdl [];obtain⟨dl,d1,d2,e3⟩:=zmx 6000 c cb hc (by omega) (by decide) [];have hb:=zkS dl d2;have e4:=zb0 hii (IntKind.i64.wrap (Int.tmod x2 11)) dl false (fun d hd=>⟨⟨(d2 d hd).1,by have:=(d2 d hd).2.2.1;omega,(d2 d hd).2.2.2.2.1⟩,(d2 d hd).2.2.2.2.2,(d2 d hd).2.2.2.1⟩) (by omega) (by omega) [];have e5:=zb0 hkk (IntKind.i64.wrap (Int.tmod x2 5)) ds dsb hfull (by omega) hdl [];rw[if_neg (by simp;omega),hkn,zM,zx,QR,za,zm,if_neg (by decide),e2,zM,zx,zm,if_pos rfl,e3,zM,zx,e4,zM,zx,zm,if_pos rfl,e5,zM,zx,zm,if_pos rfl];by_cases hx:x0 < 1\/3 < x0
      . obtain⟨h',e6⟩:=zr5 6000 x1 h0 hx;refine⟨h',?_⟩;rw[e6,zM,zx,zr6,za];by_cases hy:1<=x0
        . rw[if_pos (by simpa using hy),K8,za,show decide (x0<=3)=false by simp;omega];rfl
        . rw[if_neg (by simpa using hy),K8,za];rfl
      . obtain⟨z,hz⟩:∃ z:Nat,x0=(z:Int):=⟨x0.toNat,by omega⟩;obtain⟨h',o,s,cc,Y,e6,A6⟩:=zkJ 5998 (k:=z) (by omega) x1 true;refine⟨h',?_⟩;rw[hz,e6,zM,zx,zbc,za,if_pos (by simp;omega),K8,za,show decide ((z:Int)<=3)=true by simp;omega];rfl
  . exact⟨[],by rw[if_pos (by simp;omega),hkn,zM,zx]⟩
 obtain⟨H,key⟩:=key;rw[key];exact YV (by simp[Xc,znN]) (by simp)
end Go.Proofs.Tryz
